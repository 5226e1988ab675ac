/- Walks: SwapBound of the program and of the reference; circuits that fit a coupling graph. -/
import Derived.Test.YtbadfklelbapkaaCi
import Derived.Test.YtbadfklelbapkaaDs
import Derived.Test.YtbadfklelbapkaaDi
import Derived.Test.YtbadfklelbapkaaProg
set_option linter.unusedSimpArgs false
set_option linter.unusedVariables false
namespace Go.Proofs.Ytbadfklelbapkaa
open Go Go.RowKit
namespace SbT
theorem Tagg_106 : aggOf Try.prog 106 = some 3 := by kernel_rfl
theorem Tagg_35 : aggOf Try.prog 35 = some 2 := by kernel_rfl
theorem Tagg_39 : aggOf Try.prog 39 = some 2 := by kernel_rfl
theorem Tcall_102 : callable Try.prog 102 = true := by kernel_rfl
theorem Tcall_106 : callable Try.prog 106 = true := by kernel_rfl
theorem Tcall_154 : callable Try.prog 154 = true := by kernel_rfl
theorem Tcall_160 : callable Try.prog 160 = true := by kernel_rfl
theorem Tcall_70 : callable Try.prog 70 = true := by kernel_rfl
theorem Tcall_71 : callable Try.prog 71 = true := by kernel_rfl
theorem Tcall_72 : callable Try.prog 72 = true := by kernel_rfl
theorem Tcall_73 : callable Try.prog 73 = true := by kernel_rfl
theorem Tcall_74 : callable Try.prog 74 = true := by kernel_rfl
theorem Tcall_77 : callable Try.prog 77 = true := by kernel_rfl
theorem Tcall_78 : callable Try.prog 78 = true := by kernel_rfl
theorem Tcall_79 : callable Try.prog 79 = true := by kernel_rfl
theorem Tcall_80 : callable Try.prog 80 = true := by kernel_rfl
theorem Tfo_106_0 : fieldOff Try.prog 106 0 = some 0 := by kernel_rfl
theorem Tfo_106_1 : fieldOff Try.prog 106 1 = some 1 := by kernel_rfl
theorem Tfo_106_2 : fieldOff Try.prog 106 2 = some 2 := by kernel_rfl
theorem Tfo_35_0 : fieldOff Try.prog 35 0 = some 0 := by kernel_rfl
theorem Tfo_39_0 : fieldOff Try.prog 39 0 = some 0 := by kernel_rfl
theorem Tfo_39_1 : fieldOff Try.prog 39 1 = some 1 := by kernel_rfl
theorem Tone_3 : oneOf Try.prog 3 = true := by kernel_rfl
theorem Tone_37 : oneOf Try.prog 37 = true := by kernel_rfl
theorem Tsize_106 : (Try.prog.info? 106).map (·.size) = some 3 := by kernel_rfl
theorem Tsl_28 : sliceOf Try.prog 28 = some (3, 1, 8, [.int .i64 0]) := by kernel_rfl
theorem Tsl_37 : sliceOf Try.prog 37 = some (106, 3, 24, [.int .i64 0, .int .i64 0, .int .i64 0]) := by kernel_rfl
theorem Tzero_106 : zeroOf Try.prog 106 = some [.int .i64 0, .int .i64 0, .int .i64 0] := by kernel_rfl
end SbT
open SbT

def fitOk (N : Int) (es : List Int) (m : Nat) (Q : Int) (xs : List Int) (n : Nat) : Bool := cgOk N es m && circOk Q xs n && decide (Q ≤ N)
def plOk (N Q : Int) (ps : List Int) (pn : Nat) : Bool := placeOk N ps pn && decide ((pn : Int) = Q)
def isTwoI (k : Int) : Bool := decide (9 ≤ k ∧ k ≤ 11)
/-- The distance of the qubits of gate i. -/
noncomputable def sbD (N : Int) (es : List Int) (m : Nat) (xs ps : List Int) (i : Nat) : Int :=
  ix (distL es m N.toNat (ix ps (ix xs (i * 3 + 1)).toNat).toNat) (ix ps (ix xs (i * 3 + 2)).toNat).toNat
noncomputable def sbBad (N : Int) (es : List Int) (m : Nat) (xs ps : List Int) (i : Nat) : Bool := isTwoI (ix xs (i * 3)) && decide (sbD N es m xs ps i < 0)
noncomputable def sbV (N : Int) (es : List Int) (m : Nat) (xs ps : List Int) : Nat → Int
  | 0 => 0
  | k + 1 => if isTwoI (ix xs (k * 3)) then max (sbV N es m xs ps k) (sbD N es m xs ps k - 1) else sbV N es m xs ps k
noncomputable def sbOk (N : Int) (es : List Int) (m : Nat) (Q : Int) (xs : List Int) (n : Nat) (ps : List Int) (pn : Nat) : Bool :=
  fitOk N es m Q xs n && plOk N Q ps pn && !anyI (sbBad N es m xs ps) n
noncomputable def sbR (N : Int) (es : List Int) (m : Nat) (Q : Int) (xs : List Int) (n : Nat) (ps : List Int) (pn : Nat) : Int := if sbOk N es m Q xs n ps pn then sbV N es m xs ps n else 0
theorem plOk_at {N Q : Int} {ps : List Int} {pn : Nat} (h : plOk N Q ps pn = true) {a : Int} (h0 : 0 ≤ a) (h1 : a < Q) : a.toNat < pn ∧ 0 ≤ ix ps a.toNat ∧ ix ps a.toNat < N := by
  simp only [plOk, Bool.and_eq_true, decide_eq_true_eq] at h
  have hl : a.toNat < pn := by omega
  have := allI_iff.1 h.1 a.toNat hl
  simp only [Bool.and_eq_true] at this
  have := within_iff.1 this.1
  exact ⟨hl, by omega, by omega⟩
theorem two_args {Q : Int} {xs : List Int} {i : Nat} (hg : gateAt Q xs i = true) (h2 : isTwoI (ix xs (i * 3)) = true) : 0 ≤ ix xs (i * 3 + 1) ∧ ix xs (i * 3 + 1) < Q ∧ 0 ≤ ix xs (i * 3 + 2) ∧ ix xs (i * 3 + 2) < Q ∧ ix xs (i * 3 + 1) ≠ ix xs (i * 3 + 2) := by
  have := of_decide_eq_true h2
  rcases gateOk_split hg with h1 | h1 | h1 <;> omega
theorem sbV_nonneg (N : Int) (es : List Int) (m : Nat) (xs ps : List Int) : ∀ k, 0 ≤ sbV N es m xs ps k
  | 0 => Int.le_refl _
  | k + 1 => by have := sbV_nonneg N es m xs ps k; simp only [sbV]; split <;> omega

set_option maxHeartbeats 1000000 in
set_option maxRecDepth 20000 in
theorem canRoute_spec {N Q : Int} {vg va : Value} {m n : Nat} {es xs : List Int} {w : World} (hg : Sl w vg 2 m (ints es)) (ha : Sl w va 3 n (ints xs)) : Calls Try.prog 77 #[.agg #[.int .i64 N, vg], .agg #[.int .i64 Q, va]] w (Post No w fun v _ => v = .bool (fitOk N es m Q xs n)) := by
  refine enter (n := 18) (args := [.agg #[.int .i64 N, vg], .agg #[.int .i64 Q, va]]) Try.func77 rfl rfl (St.empty _ _) ?_
  refine Run.seq ?_
  refine Run.region ?_
  refine Run.step rfl (OpStep.box (us := [.int .i64 N, vg]) rfl fun b1 => ?_)
  refine Run.step rfl (OpStep.box (us := [.int .i64 Q, va]) rfl fun b2 => ?_)
  refine Run.q (v := .bool false) rfl (OpQ.y (OpY.pure rfl)) ?_
  refine Run.done ?_
  refine Run.seq ?_
  refine Run.region ?_
  refine Run.q (v := .agg #[.int .i64 N, vg]) rfl (OpQ.y (OpY.loadN (cs := [.int .i64 N, vg]) Tagg_35 rfl (Cells.blk (.tail _ (List.Mem.head _)) ⟨rfl, rfl, trivial⟩))) ?_
  refine Run.q (v := .bool (cgOk N es m)) rfl (OpQ.call (vs := [.agg #[.int .i64 N, vg]]) (caps := []) Tcall_160 rfl rfl (fun w hs => IsValidCouplingGraph_spec (hs.sl hg))) ?_
  rcases Bool.eq_false_or_eq_true (cgOk N es m) with h7 | h7
  · refine Run.q (v := .bool true) rfl (OpQ.y (OpY.moveB rfl h7)) ?_
    have p7 := h7; try simp only [decide_eq_true_eq, decide_eq_false_iff_not, beq_iff_eq, bne_iff_ne, beq_eq_false_iff_ne, ne_eq, gt_iff_lt, ge_iff_le, Int.not_lt, Int.not_le, bne_eq_false_iff_eq, Bool.not_eq_true', Bool.not_eq_false', Bool.and_eq_true, Bool.and_eq_false_iff, Bool.or_eq_true, Bool.or_eq_false_iff, Decidable.not_not, List.cons.injEq, and_true] at p7
    refine Run.q (v := .agg #[.int .i64 Q, va]) rfl (OpQ.y (OpY.loadN (cs := [.int .i64 Q, va]) Tagg_39 rfl (Cells.blk (.head _) ⟨rfl, rfl, trivial⟩))) ?_
    refine Run.q (v := .bool (circOk Q xs n)) rfl (OpQ.call (vs := [.agg #[.int .i64 Q, va]]) (caps := []) Tcall_106 rfl rfl (fun w hs => IsValidCircuit_spec (hs.sl ha))) ?_
    refine Run.q (v := .bool (circOk Q xs n)) rfl (OpQ.y (OpY.pure rfl)) ?_
    rcases Bool.eq_false_or_eq_true (circOk Q xs n) with h11 | h11
    · refine Run.q (v := .bool true) rfl (OpQ.y (OpY.moveB rfl h11)) ?_
      have p11 := h11; try simp only [decide_eq_true_eq, decide_eq_false_iff_not, beq_iff_eq, bne_iff_ne, beq_eq_false_iff_ne, ne_eq, gt_iff_lt, ge_iff_le, Int.not_lt, Int.not_le, bne_eq_false_iff_eq, Bool.not_eq_true', Bool.not_eq_false', Bool.and_eq_true, Bool.and_eq_false_iff, Bool.or_eq_true, Bool.or_eq_false_iff, Decidable.not_not, List.cons.injEq, and_true] at p11
      refine Run.q (v := .pointer (some ⟨b2, 0, none⟩)) rfl (OpQ.y (OpY.fieldAddr Tfo_39_0 rfl rfl)) ?_
      refine Run.q (v := .int .i64 Q) rfl (OpQ.y (OpY.load1 Tone_3 rfl (Cells.blk (.head _) ⟨rfl, trivial⟩))) ?_
      refine Run.q (v := .pointer (some ⟨b1, 0, none⟩)) rfl (OpQ.y (OpY.fieldAddr Tfo_35_0 rfl rfl)) ?_
      refine Run.q (v := .int .i64 N) rfl (OpQ.y (OpY.load1 Tone_3 rfl (Cells.blk (.tail _ (List.Mem.head _)) ⟨rfl, trivial⟩))) ?_
      refine Run.q (v := .bool (decide (Q ≤ N))) rfl (OpQ.y (OpY.pure rfl)) ?_
      refine Run.q (v := .bool (decide (Q ≤ N))) rfl (OpQ.y (OpY.pure rfl)) ?_
      refine Run.q (v := .bool (decide (Q ≤ N))) rfl (OpQ.y (OpY.pure rfl)) ?_
      refine Run.done ?_
      refine Run.ret ?_
      refine ⟨.bool (decide (Q ≤ N)), [], Out.one rfl rfl, (Some'.weak (.nil _)), ?_⟩
      show _ = _; simp_all [fitOk]
    · refine Run.q (v := .bool false) rfl (OpQ.y (OpY.moveB rfl h11)) ?_
      have p11 := h11; try simp only [decide_eq_true_eq, decide_eq_false_iff_not, beq_iff_eq, bne_iff_ne, beq_eq_false_iff_ne, ne_eq, gt_iff_lt, ge_iff_le, Int.not_lt, Int.not_le, bne_eq_false_iff_eq, Bool.not_eq_true', Bool.not_eq_false', Bool.and_eq_true, Bool.and_eq_false_iff, Bool.or_eq_true, Bool.or_eq_false_iff, Decidable.not_not, List.cons.injEq, and_true] at p11
      refine Run.pass rfl ?_
      refine Run.pass rfl ?_
      refine Run.pass rfl ?_
      refine Run.pass rfl ?_
      refine Run.pass rfl ?_
      refine Run.q (v := .bool false) rfl (OpQ.y (OpY.pure rfl)) ?_
      refine Run.q (v := .bool false) rfl (OpQ.y (OpY.pure rfl)) ?_
      refine Run.done ?_
      refine Run.ret ?_
      refine ⟨.bool false, [], Out.one rfl rfl, (Some'.weak (.nil _)), ?_⟩
      show _ = _; simp_all [fitOk]
  · refine Run.q (v := .bool false) rfl (OpQ.y (OpY.moveB rfl h7)) ?_
    have p7 := h7; try simp only [decide_eq_true_eq, decide_eq_false_iff_not, beq_iff_eq, bne_iff_ne, beq_eq_false_iff_ne, ne_eq, gt_iff_lt, ge_iff_le, Int.not_lt, Int.not_le, bne_eq_false_iff_eq, Bool.not_eq_true', Bool.not_eq_false', Bool.and_eq_true, Bool.and_eq_false_iff, Bool.or_eq_true, Bool.or_eq_false_iff, Decidable.not_not, List.cons.injEq, and_true] at p7
    refine Run.pass rfl ?_
    refine Run.pass rfl ?_
    refine Run.q (v := .bool false) rfl (OpQ.y (OpY.pure rfl)) ?_
    refine Run.q (v := .bool false) rfl (OpQ.y (OpY.pure rfl)) ?_
    refine Run.pass rfl ?_
    refine Run.pass rfl ?_
    refine Run.pass rfl ?_
    refine Run.pass rfl ?_
    refine Run.pass rfl ?_
    refine Run.q (v := .bool false) rfl (OpQ.y (OpY.pure rfl)) ?_
    refine Run.q (v := .bool false) rfl (OpQ.y (OpY.pure rfl)) ?_
    refine Run.done ?_
    refine Run.ret ?_
    refine ⟨.bool false, [], Out.one rfl rfl, (Some'.weak (.nil _)), ?_⟩
    show _ = _; simp_all [fitOk]

set_option maxHeartbeats 1000000 in
set_option maxRecDepth 20000 in
theorem l23Fits_spec {N Q : Int} {vg va : Value} {m n : Nat} {es xs : List Int} {w : World} (hN : In64 N) (hw : ∀ x ∈ es, In64 x) (hg : Sl w vg 2 m (ints es)) (ha : Sl w va 3 n (ints xs)) : Calls Try.prog 70 #[.agg #[.int .i64 N, vg], .agg #[.int .i64 Q, va]] w (Post No w fun v _ => v = .bool (fitOk N es m Q xs n)) := by
  refine enter (n := 18) (args := [.agg #[.int .i64 N, vg], .agg #[.int .i64 Q, va]]) Try.func70 rfl rfl (St.empty _ _) ?_
  refine Run.seq ?_
  refine Run.region ?_
  refine Run.step rfl (OpStep.box (us := [.int .i64 N, vg]) rfl fun b1 => ?_)
  refine Run.step rfl (OpStep.box (us := [.int .i64 Q, va]) rfl fun b2 => ?_)
  refine Run.q (v := .bool false) rfl (OpQ.y (OpY.pure rfl)) ?_
  refine Run.done ?_
  refine Run.seq ?_
  refine Run.region ?_
  refine Run.q (v := .agg #[.int .i64 N, vg]) rfl (OpQ.y (OpY.loadN (cs := [.int .i64 N, vg]) Tagg_35 rfl (Cells.blk (.tail _ (List.Mem.head _)) ⟨rfl, rfl, trivial⟩))) ?_
  refine Run.q (v := .bool (cgOk N es m)) rfl (OpQ.call (vs := [.agg #[.int .i64 N, vg]]) (caps := []) Tcall_154 rfl rfl (fun w hs => l22Valid_spec hN (hs.sl hg) hw)) ?_
  rcases Bool.eq_false_or_eq_true (cgOk N es m) with h7 | h7
  · refine Run.q (v := .bool true) rfl (OpQ.y (OpY.moveB rfl h7)) ?_
    have p7 := h7; try simp only [decide_eq_true_eq, decide_eq_false_iff_not, beq_iff_eq, bne_iff_ne, beq_eq_false_iff_ne, ne_eq, gt_iff_lt, ge_iff_le, Int.not_lt, Int.not_le, bne_eq_false_iff_eq, Bool.not_eq_true', Bool.not_eq_false', Bool.and_eq_true, Bool.and_eq_false_iff, Bool.or_eq_true, Bool.or_eq_false_iff, Decidable.not_not, List.cons.injEq, and_true] at p7
    refine Run.q (v := .agg #[.int .i64 Q, va]) rfl (OpQ.y (OpY.loadN (cs := [.int .i64 Q, va]) Tagg_39 rfl (Cells.blk (.head _) ⟨rfl, rfl, trivial⟩))) ?_
    refine Run.q (v := .bool (circOk Q xs n)) rfl (OpQ.call (vs := [.agg #[.int .i64 Q, va]]) (caps := []) Tcall_102 rfl rfl (fun w hs => l4Good_spec (hs.sl ha))) ?_
    refine Run.q (v := .bool (circOk Q xs n)) rfl (OpQ.y (OpY.pure rfl)) ?_
    rcases Bool.eq_false_or_eq_true (circOk Q xs n) with h11 | h11
    · refine Run.q (v := .bool true) rfl (OpQ.y (OpY.moveB rfl h11)) ?_
      have p11 := h11; try simp only [decide_eq_true_eq, decide_eq_false_iff_not, beq_iff_eq, bne_iff_ne, beq_eq_false_iff_ne, ne_eq, gt_iff_lt, ge_iff_le, Int.not_lt, Int.not_le, bne_eq_false_iff_eq, Bool.not_eq_true', Bool.not_eq_false', Bool.and_eq_true, Bool.and_eq_false_iff, Bool.or_eq_true, Bool.or_eq_false_iff, Decidable.not_not, List.cons.injEq, and_true] at p11
      refine Run.q (v := .pointer (some ⟨b2, 0, none⟩)) rfl (OpQ.y (OpY.fieldAddr Tfo_39_0 rfl rfl)) ?_
      refine Run.q (v := .int .i64 Q) rfl (OpQ.y (OpY.load1 Tone_3 rfl (Cells.blk (.head _) ⟨rfl, trivial⟩))) ?_
      refine Run.q (v := .pointer (some ⟨b1, 0, none⟩)) rfl (OpQ.y (OpY.fieldAddr Tfo_35_0 rfl rfl)) ?_
      refine Run.q (v := .int .i64 N) rfl (OpQ.y (OpY.load1 Tone_3 rfl (Cells.blk (.tail _ (List.Mem.head _)) ⟨rfl, trivial⟩))) ?_
      refine Run.q (v := .bool (decide (Q ≤ N))) rfl (OpQ.y (OpY.pure rfl)) ?_
      refine Run.q (v := .bool (decide (Q ≤ N))) rfl (OpQ.y (OpY.pure rfl)) ?_
      refine Run.q (v := .bool (decide (Q ≤ N))) rfl (OpQ.y (OpY.pure rfl)) ?_
      refine Run.done ?_
      refine Run.ret ?_
      refine ⟨.bool (decide (Q ≤ N)), [], Out.one rfl rfl, (Some'.weak (.nil _)), ?_⟩
      show _ = _; simp_all [fitOk]
    · refine Run.q (v := .bool false) rfl (OpQ.y (OpY.moveB rfl h11)) ?_
      have p11 := h11; try simp only [decide_eq_true_eq, decide_eq_false_iff_not, beq_iff_eq, bne_iff_ne, beq_eq_false_iff_ne, ne_eq, gt_iff_lt, ge_iff_le, Int.not_lt, Int.not_le, bne_eq_false_iff_eq, Bool.not_eq_true', Bool.not_eq_false', Bool.and_eq_true, Bool.and_eq_false_iff, Bool.or_eq_true, Bool.or_eq_false_iff, Decidable.not_not, List.cons.injEq, and_true] at p11
      refine Run.pass rfl ?_
      refine Run.pass rfl ?_
      refine Run.pass rfl ?_
      refine Run.pass rfl ?_
      refine Run.pass rfl ?_
      refine Run.q (v := .bool false) rfl (OpQ.y (OpY.pure rfl)) ?_
      refine Run.q (v := .bool false) rfl (OpQ.y (OpY.pure rfl)) ?_
      refine Run.done ?_
      refine Run.ret ?_
      refine ⟨.bool false, [], Out.one rfl rfl, (Some'.weak (.nil _)), ?_⟩
      show _ = _; simp_all [fitOk]
  · refine Run.q (v := .bool false) rfl (OpQ.y (OpY.moveB rfl h7)) ?_
    have p7 := h7; try simp only [decide_eq_true_eq, decide_eq_false_iff_not, beq_iff_eq, bne_iff_ne, beq_eq_false_iff_ne, ne_eq, gt_iff_lt, ge_iff_le, Int.not_lt, Int.not_le, bne_eq_false_iff_eq, Bool.not_eq_true', Bool.not_eq_false', Bool.and_eq_true, Bool.and_eq_false_iff, Bool.or_eq_true, Bool.or_eq_false_iff, Decidable.not_not, List.cons.injEq, and_true] at p7
    refine Run.pass rfl ?_
    refine Run.pass rfl ?_
    refine Run.q (v := .bool false) rfl (OpQ.y (OpY.pure rfl)) ?_
    refine Run.q (v := .bool false) rfl (OpQ.y (OpY.pure rfl)) ?_
    refine Run.pass rfl ?_
    refine Run.pass rfl ?_
    refine Run.pass rfl ?_
    refine Run.pass rfl ?_
    refine Run.pass rfl ?_
    refine Run.q (v := .bool false) rfl (OpQ.y (OpY.pure rfl)) ?_
    refine Run.q (v := .bool false) rfl (OpQ.y (OpY.pure rfl)) ?_
    refine Run.done ?_
    refine Run.ret ?_
    refine ⟨.bool false, [], Out.one rfl rfl, (Some'.weak (.nil _)), ?_⟩
    show _ = _; simp_all [fitOk]

set_option maxHeartbeats 1000000 in
set_option maxRecDepth 20000 in
theorem SwapBound_spec {N Q : Int} {vg va vp : Value} {m n pn : Nat} {es xs ps : List Int} {w : World} (hg : Sl w vg 2 m (ints es)) (ha : Sl w va 3 n (ints xs)) (hp : Sl w vp 1 pn (ints ps)) : Calls Try.prog 21 #[.agg #[.int .i64 N, vg], .agg #[.int .i64 Q, va], vp] w (Post No w fun v _ => v = .tuple #[.int .i64 (sbR N es m Q xs n ps pn), .bool (sbOk N es m Q xs n ps pn)]) := by
  have hxl := ha.len
  have hn := ha.le
  obtain ⟨A, c, rfl, _, _⟩ := ha.form0
  have hpl := hp.len
  obtain ⟨Ap, cp, rfl, _, _⟩ := hp.form0
  refine enter (n := 57) (args := [.agg #[.int .i64 N, vg], .agg #[.int .i64 Q, .slice A n c], .slice Ap pn cp]) Try.func21 rfl rfl (St.empty _ _) ?_
  refine Run.seq ?_
  refine Run.region ?_
  refine Run.step rfl (OpStep.box (us := [.int .i64 N, vg]) rfl fun b1 => ?_)
  refine Run.step rfl (OpStep.box (us := [.int .i64 Q, .slice A n c]) rfl fun b2 => ?_)
  refine Run.q (v := .int .i64 0) rfl (OpQ.y (OpY.pure rfl)) ?_
  refine Run.q (v := .bool false) rfl (OpQ.y (OpY.pure rfl)) ?_
  refine Run.done ?_
  refine Run.seq ?_
  refine Run.seq ?_
  refine Run.region ?_
  refine Run.q (v := .agg #[.int .i64 N, vg]) rfl (OpQ.y (OpY.loadN (cs := [.int .i64 N, vg]) Tagg_35 rfl (Cells.blk (.tail _ (List.Mem.head _)) ⟨rfl, rfl, trivial⟩))) ?_
  refine Run.q (v := .agg #[.int .i64 Q, .slice A n c]) rfl (OpQ.y (OpY.loadN (cs := [.int .i64 Q, .slice A n c]) Tagg_39 rfl (Cells.blk (.head _) ⟨rfl, rfl, trivial⟩))) ?_
  refine Run.q (v := .bool (fitOk N es m Q xs n)) rfl (OpQ.call (vs := [.agg #[.int .i64 N, vg], .agg #[.int .i64 Q, .slice A n c]]) (caps := []) Tcall_77 rfl rfl (fun w hs => canRoute_spec (hs.sl hg) (hs.sl ha))) ?_
  refine Run.q (v := .bool (!(fitOk N es m Q xs n))) rfl (OpQ.y (OpY.pure rfl)) ?_
  rcases Bool.eq_false_or_eq_true (!(fitOk N es m Q xs n)) with h16 | h16
  · refine Run.q (v := .bool true) rfl (OpQ.y (OpY.moveB rfl h16)) ?_
    have p16 := h16; try simp only [decide_eq_true_eq, decide_eq_false_iff_not, beq_iff_eq, bne_iff_ne, beq_eq_false_iff_ne, ne_eq, gt_iff_lt, ge_iff_le, Int.not_lt, Int.not_le, bne_eq_false_iff_eq, Bool.not_eq_true', Bool.not_eq_false', Bool.and_eq_true, Bool.and_eq_false_iff, Bool.or_eq_true, Bool.or_eq_false_iff, Decidable.not_not, List.cons.injEq, and_true] at p16
    refine Run.pass rfl ?_
    refine Run.pass rfl ?_
    refine Run.pass rfl ?_
    refine Run.pass rfl ?_
    refine Run.pass rfl ?_
    refine Run.pass rfl ?_
    refine Run.q (v := .bool true) rfl (OpQ.y (OpY.pure rfl)) ?_
    refine Run.done ?_
    refine Run.cond (b := true) rfl (fun _ => ?_) (fun h => nomatch h)
    refine Run.seq ?_
    have hbad : sbOk N es m Q xs n ps pn = false := by simp_all [sbOk]
    refine Run.region ?_
    refine Run.q (v := .int .i64 0) rfl (OpQ.y (OpY.pure rfl)) ?_
    refine Run.q (v := .bool false) rfl (OpQ.y (OpY.pure rfl)) ?_
    refine Run.done ?_
    refine Run.ret ?_
    refine ⟨.tuple #[.int .i64 0, .bool false], [], Out.two rfl rfl rfl, (Some'.weak (.nil _)), ?_⟩
    show _ = _
    rw [sbR, hbad]; rfl
  · refine Run.q (v := .bool false) rfl (OpQ.y (OpY.moveB rfl h16)) ?_
    have p16 := h16; try simp only [decide_eq_true_eq, decide_eq_false_iff_not, beq_iff_eq, bne_iff_ne, beq_eq_false_iff_ne, ne_eq, gt_iff_lt, ge_iff_le, Int.not_lt, Int.not_le, bne_eq_false_iff_eq, Bool.not_eq_true', Bool.not_eq_false', Bool.and_eq_true, Bool.and_eq_false_iff, Bool.or_eq_true, Bool.or_eq_false_iff, Decidable.not_not, List.cons.injEq, and_true] at p16
    have hfit0 : fitOk N es m Q xs n = true := by simpa using p16
    have hcN0 : 1 ≤ N ∧ N ≤ 8 := by
      simp only [fitOk, Bool.and_eq_true] at hfit0
      exact cgOk_N hfit0.1.1
    refine Run.q (v := .agg #[.int .i64 N, vg]) rfl (OpQ.y (OpY.loadN (cs := [.int .i64 N, vg]) Tagg_35 rfl (Cells.blk (.tail _ (List.Mem.head _)) ⟨rfl, rfl, trivial⟩))) ?_
    refine Run.q (v := .pointer (some ⟨b2, 0, none⟩)) rfl (OpQ.y (OpY.fieldAddr Tfo_39_0 rfl rfl)) ?_
    refine Run.q (v := .int .i64 Q) rfl (OpQ.y (OpY.load1 Tone_3 rfl (Cells.blk (.head _) ⟨rfl, trivial⟩))) ?_
    refine Run.q (v := .slice Ap pn cp) rfl (OpQ.y (OpY.pure rfl)) ?_
    refine Run.q (v := .bool (plOk N Q ps pn)) rfl (OpQ.call (vs := [.agg #[.int .i64 N, vg], .int .i64 Q, .slice Ap pn cp]) (caps := []) Tcall_78 rfl rfl (fun w hs => isPlacement_spec hcN0 (hs.sl hp))) ?_
    refine Run.q (v := .bool (!(plOk N Q ps pn))) rfl (OpQ.y (OpY.pure rfl)) ?_
    refine Run.q (v := .bool (!(plOk N Q ps pn))) rfl (OpQ.y (OpY.pure rfl)) ?_
    refine Run.done ?_
    refine Run.cond (b := !(plOk N Q ps pn)) rfl (fun h23 => ?_) (fun h23 => ?_)
    · have p23 := h23; try simp only [decide_eq_true_eq, decide_eq_false_iff_not, beq_iff_eq, bne_iff_ne, beq_eq_false_iff_ne, ne_eq, gt_iff_lt, ge_iff_le, Int.not_lt, Int.not_le, bne_eq_false_iff_eq, Bool.not_eq_true', Bool.not_eq_false', Bool.and_eq_true, Bool.and_eq_false_iff, Bool.or_eq_true, Bool.or_eq_false_iff, Decidable.not_not, List.cons.injEq, and_true] at p23
      refine Run.seq ?_
      have hbad : sbOk N es m Q xs n ps pn = false := by simp_all [sbOk]
      refine Run.region ?_
      refine Run.q (v := .int .i64 0) rfl (OpQ.y (OpY.pure rfl)) ?_
      refine Run.q (v := .bool false) rfl (OpQ.y (OpY.pure rfl)) ?_
      refine Run.done ?_
      refine Run.ret ?_
      refine ⟨.tuple #[.int .i64 0, .bool false], [], Out.two rfl rfl rfl, (Some'.weak (.nil _)), ?_⟩
      show _ = _
      rw [sbR, hbad]; rfl
    · have p23 := h23; try simp only [decide_eq_true_eq, decide_eq_false_iff_not, beq_iff_eq, bne_iff_ne, beq_eq_false_iff_ne, ne_eq, gt_iff_lt, ge_iff_le, Int.not_lt, Int.not_le, bne_eq_false_iff_eq, Bool.not_eq_true', Bool.not_eq_false', Bool.and_eq_true, Bool.and_eq_false_iff, Bool.or_eq_true, Bool.or_eq_false_iff, Decidable.not_not, List.cons.injEq, and_true] at p23
      refine Run.skip ?_
      refine Run.seq ?_
      have hfit : fitOk N es m Q xs n = true := by simp_all
      have hpok : plOk N Q ps pn = true := by simp_all
      have hfit2 := hfit
      simp only [fitOk, Bool.and_eq_true, decide_eq_true_eq] at hfit2
      have hcg := hfit2.1.1
      have hci := hfit2.1.2
      have hcN := cgOk_N hcg
      have hcQ := circOk_N hci
      refine Run.region ?_
      refine Run.q (v := .int .i64 0) rfl (OpQ.y (OpY.pure rfl)) ?_
      refine Run.done ?_
      refine Run.seq ?_
      refine Run.seq ?_
      refine Run.region ?_
      refine Run.q (v := .pointer (some ⟨b2, 1, none⟩)) rfl (OpQ.y (OpY.fieldAddr Tfo_39_1 rfl rfl)) ?_
      refine Run.q (v := .slice A n c) rfl (OpQ.y (OpY.load1 Tone_37 rfl (Cells.blk (.head _) ⟨rfl, trivial⟩))) ?_
      refine Run.q (v := .int .i64 (((n : Nat) : Int))) rfl (OpQ.y (OpY.len Tsl_37 rfl)) ?_
      refine Run.q (v := .int .i64 0) rfl (OpQ.y (OpY.pure rfl)) ?_
      refine Run.done ?_
      refine Run.block ?_
      refine Run.loop (ι := Nat) [6, 7, 8, 10, 11, 27, 28, 29, 30, 31, 32, 33, 34, 35, 36, 37, 38, 39, 40, 41, 42, 43, 44, 45, 46, 47, 48, 49, 50, 51, 52, 53, 54, 55] (fun k => [(8, .int .i64 (sbV N es m xs ps k)), (27, .int .i64 (((k : Nat) : Int)))]) (fun k => [.blk b2 39 [.int .i64 Q, .slice A n c], .blk b1 35 [.int .i64 N, vg]]) (fun k => k ≤ n ∧ (∀ i, i < k → sbBad N es m xs ps i = false)) (fun k => n - k) 0 ?_ ?_ ?_ ?_
      · exact ⟨Nat.zero_le _, by first | trivial | (intro i hi; omega)⟩
      · exact ⟨rfl, rfl, trivial⟩
      · exact (Some'.weak (.take (.take (.nil _))))
      · rintro k fr hinv
        show Run _ _ (over _ _ [(8, .int .i64 (sbV N es m xs ps k)), (27, .int .i64 (((k : Nat) : Int)))] fr) [.blk b2 39 [.int .i64 Q, .slice A n c], .blk b1 35 [.int .i64 N, vg]]
        try dsimp only at hinv
        refine Run.seq ?_
        refine Run.region ?_
        refine Run.q (v := .bool (decide ((((k : Nat) : Int)) < (((n : Nat) : Int))))) rfl (OpQ.y (OpY.pure rfl)) ?_
        refine Run.done ?_
        refine Run.seq ?_
        refine Run.cond (b := decide ((((k : Nat) : Int)) < (((n : Nat) : Int)))) rfl (fun h28 => ?_) (fun h28 => ?_)
        · have p28 := h28; try simp only [decide_eq_true_eq, decide_eq_false_iff_not, beq_iff_eq, bne_iff_ne, beq_eq_false_iff_ne, ne_eq, gt_iff_lt, ge_iff_le, Int.not_lt, Int.not_le, bne_eq_false_iff_eq, Bool.not_eq_true', Bool.not_eq_false', Bool.and_eq_true, Bool.and_eq_false_iff, Bool.or_eq_true, Bool.or_eq_false_iff, Decidable.not_not, List.cons.injEq, and_true] at p28
          have hltk : k < n := by omega
          obtain ⟨b, o, rfl⟩ := ha.opn (by omega)
          refine Run.skip ?_
          refine Run.seq ?_
          refine Run.block ?_
          refine Run.seq ?_
          refine Run.region ?_
          refine Run.q (v := .pointer (some ⟨b, o + k * 3, none⟩)) rfl (OpQ.y (OpY.index (kk := k) Tsl_37 rfl rfl (by omega) (by omega) (by first | rfl | omega))) ?_
          refine Run.q (v := .agg #[.int .i64 (ix xs (k * 3)), .int .i64 (ix xs (k * 3 + 1)), .int .i64 (ix xs (k * 3 + 2))]) rfl (OpQ.y (OpY.loadN (cs := [.int .i64 (ix xs (k * 3)), .int .i64 (ix xs (k * 3 + 1)), .int .i64 (ix xs (k * 3 + 2))]) Tagg_106 rfl (Cells.arg (k := k * 3) ha rfl (by omega) (pre3 (by omega))))) ?_
          refine Run.step rfl (OpStep.alloc (zs := [.int .i64 0, .int .i64 0, .int .i64 0]) Tzero_106 fun b3 => ?_)
          refine Run.step rfl (OpStep.storeAll (us := [.int .i64 (ix xs (k * 3)), .int .i64 (ix xs (k * 3 + 1)), .int .i64 (ix xs (k * 3 + 2))]) Tsize_106 rfl rfl rfl (.here _) rfl ?_)
          refine Run.done ?_
          refine Run.seq ?_
          refine Run.seq ?_
          refine Run.region ?_
          refine Run.q (v := .pointer (some ⟨b3, 0, none⟩)) rfl (OpQ.y (OpY.fieldAddr Tfo_106_0 rfl rfl)) ?_
          refine Run.q (v := .int .i64 (ix xs (k * 3))) rfl (OpQ.y (OpY.load1 Tone_3 rfl (Cells.blk (.head _) ⟨rfl, trivial⟩))) ?_
          refine Run.q (v := .bool (decide (9 ≤ ix xs (k * 3) ∧ ix xs (k * 3) ≤ 11))) rfl (OpQ.call (vs := [.int .i64 (ix xs (k * 3))]) (caps := []) Tcall_79 rfl rfl (fun w hs => isTwo_spec _ w)) ?_
          refine Run.q (v := .bool (!(decide (9 ≤ ix xs (k * 3) ∧ ix xs (k * 3) ≤ 11)))) rfl (OpQ.y (OpY.pure rfl)) ?_
          refine Run.done ?_
          refine Run.cond (b := !(decide (9 ≤ ix xs (k * 3) ∧ ix xs (k * 3) ≤ 11))) rfl (fun h34 => ?_) (fun h34 => ?_)
          · have p34 := h34; try simp only [decide_eq_true_eq, decide_eq_false_iff_not, beq_iff_eq, bne_iff_ne, beq_eq_false_iff_ne, ne_eq, gt_iff_lt, ge_iff_le, Int.not_lt, Int.not_le, bne_eq_false_iff_eq, Bool.not_eq_true', Bool.not_eq_false', Bool.and_eq_true, Bool.and_eq_false_iff, Bool.or_eq_true, Bool.or_eq_false_iff, Decidable.not_not, List.cons.injEq, and_true] at p34
            have h2 : isTwoI (ix xs (k * 3)) = false := by simp_all [isTwoI]
            have hgood : sbBad N es m xs ps k = false := by rw [sbBad, h2]; rfl
            have hnx : sbV N es m xs ps (k + 1) = sbV N es m xs ps k := by rw [sbV, h2]; rfl
            refine Run.exit rfl ?_
            refine Run.region ?_
            refine Run.q (v := .int .i64 ((((k : Nat) : Int)) + 1)) rfl (OpQ.y (OpY.add rfl rfl rfl (by omega) (by omega))) ?_
            refine Run.q (v := .int .i64 ((((k : Nat) : Int)) + 1)) rfl (OpQ.y (OpY.pure rfl)) ?_
            refine Run.done ?_
            refine Run.goal ⟨(by repeat (first | exact Same.refl _ _ | refine Same.put rfl ?_ | refine Same.over rfl rfl ?_)), k + 1, ?_, ?_, ?_, ?_⟩
            · refine ⟨by omega, ?_⟩
              intro i hi
              rcases Nat.lt_succ_iff_lt_or_eq.1 hi with h | h
              · exact hinv.2 i h
              · rw [h]; exact hgood
            · omega
            · exact ⟨(by show Value.int _ _ = Value.int _ _; first | (rw [hnx]; done) | (rw [hnx]; rfl)), (by first | rfl | (congr 1; omega) | simp), trivial⟩
            · exact (Some'.weak (.skip (.takeEq (by first | rfl | simp) (.take (.nil _)))))
          · have p34 := h34; try simp only [decide_eq_true_eq, decide_eq_false_iff_not, beq_iff_eq, bne_iff_ne, beq_eq_false_iff_ne, ne_eq, gt_iff_lt, ge_iff_le, Int.not_lt, Int.not_le, bne_eq_false_iff_eq, Bool.not_eq_true', Bool.not_eq_false', Bool.and_eq_true, Bool.and_eq_false_iff, Bool.or_eq_true, Bool.or_eq_false_iff, Decidable.not_not, List.cons.injEq, and_true] at p34
            have h2 : isTwoI (ix xs (k * 3)) = true := by simp_all [isTwoI]
            have hta := two_args (circOk_gate hci hltk) h2
            have hp1 := plOk_at hpok hta.1 hta.2.1
            have hp2 := plOk_at hpok hta.2.2.1 hta.2.2.2.1
            obtain ⟨bp, op, rfl⟩ := hp.opn (by omega)
            refine Run.skip ?_
            refine Run.seq ?_
            refine Run.held (by kernel_rfl) ?_
            refine DW.take (i := 0) (v := .agg #[.int .i64 N, vg]) rfl (by kernel_rfl) (by kernel_rfl) (by kernel_rfl) (fun _ _ _ h => h) (Weak.refl _) rfl (OpY.loadN (cs := [.int .i64 N, vg]) Tagg_35 rfl (Cells.blk (.tail _ (.tail _ (List.Mem.head _))) ⟨rfl, rfl, trivial⟩)) ?_
            refine DW.take (i := 1) (v := .slice (some ⟨bp, op, none⟩) pn cp) rfl (by kernel_rfl) (by kernel_rfl) (by kernel_rfl) (fun _ _ _ h => h) (Weak.refl _) rfl (OpY.pure rfl) ?_
            refine DW.take (i := 2) (v := .pointer (some ⟨b3, 1, none⟩)) rfl (by kernel_rfl) (by kernel_rfl) (by kernel_rfl) (fun _ _ _ h => h) (Weak.refl _) rfl (OpY.fieldAddr Tfo_106_1 rfl rfl) ?_
            refine DW.take (i := 3) (v := .int .i64 (ix xs (k * 3 + 1))) rfl (by kernel_rfl) (by kernel_rfl) (by kernel_rfl) (fun _ _ _ h => h) (Weak.refl _) rfl (OpY.load1 Tone_3 rfl (Cells.blk (.head _) ⟨rfl, trivial⟩)) ?_
            refine DW.take (i := 4) (v := .pointer (some ⟨bp, op + (ix xs (k * 3 + 1)).toNat, none⟩)) rfl (by kernel_rfl) (by kernel_rfl) (by kernel_rfl) (fun _ _ _ h => h) (Weak.refl _) rfl (OpY.index (kk := (ix xs (k * 3 + 1)).toNat) Tsl_28 rfl rfl (by omega) (by omega) (by first | rfl | omega)) ?_
            refine DW.take (i := 5) (v := .int .i64 (ix ps ((ix xs (k * 3 + 1)).toNat))) rfl (by kernel_rfl) (by kernel_rfl) (by kernel_rfl) (fun _ _ _ h => h) (Weak.refl _) rfl (OpY.load1 Tone_3 rfl (Cells.arg (k := (ix xs (k * 3 + 1)).toNat) hp rfl (by omega) (pre1 (by omega)))) ?_
            refine DW.take (i := 7) (v := .slice (some ⟨bp, op, none⟩) pn cp) rfl (by kernel_rfl) (by kernel_rfl) (by kernel_rfl) (fun _ _ _ h => h) (Weak.refl _) rfl (OpY.pure rfl) ?_
            refine DW.take (i := 8) (v := .pointer (some ⟨b3, 2, none⟩)) rfl (by kernel_rfl) (by kernel_rfl) (by kernel_rfl) (fun _ _ _ h => h) (Weak.refl _) rfl (OpY.fieldAddr Tfo_106_2 rfl rfl) ?_
            refine DW.take (i := 9) (v := .int .i64 (ix xs (k * 3 + 2))) rfl (by kernel_rfl) (by kernel_rfl) (by kernel_rfl) (fun _ _ _ h => h) (Weak.refl _) rfl (OpY.load1 Tone_3 rfl (Cells.blk (.head _) ⟨rfl, trivial⟩)) ?_
            refine DW.take (i := 10) (v := .pointer (some ⟨bp, op + (ix xs (k * 3 + 2)).toNat, none⟩)) rfl (by kernel_rfl) (by kernel_rfl) (by kernel_rfl) (fun _ _ _ h => h) (Weak.refl _) rfl (OpY.index (kk := (ix xs (k * 3 + 2)).toNat) Tsl_28 rfl rfl (by omega) (by omega) (by first | rfl | omega)) ?_
            refine DW.take (i := 11) (v := .int .i64 (ix ps ((ix xs (k * 3 + 2)).toNat))) rfl (by kernel_rfl) (by kernel_rfl) (by kernel_rfl) (fun _ _ _ h => h) (Weak.refl _) rfl (OpY.load1 Tone_3 rfl (Cells.arg (k := (ix xs (k * 3 + 2)).toNat) hp rfl (by omega) (pre1 (by omega)))) ?_
            refine DW.step (i := 6) (by kernel_rfl) rfl rfl (OpStep.call (vs := [.agg #[.int .i64 N, vg], .int .i64 (ix ps ((ix xs (k * 3 + 1)).toNat))]) (caps := []) Tcall_80 rfl rfl (fun w hs => distances_spec hcN ⟨by omega, by omega⟩ (cgOk_edges hcg) (hs.sl hg)) ?_)
            rintro uo _ ⟨hd, rfl⟩
            have hdl := hd.len
            have hlvl := level_lt (by omega) hd.src hd.par (v := (ix ps (ix xs (k * 3 + 2)).toNat).toNat) (by omega)
            refine ⟨(Some'.weak (.skip (.take (.take (.take (.nil _)))))), ?_⟩
            refine DW.openOwn (.head _) (by omega) (fun go co hvgo hcapgo _ => ?_)
            subst hvgo
            refine DW.take (i := 12) (v := .pointer (some ⟨go, (ix ps (ix xs (k * 3 + 2)).toNat).toNat, none⟩)) rfl (by kernel_rfl) (by kernel_rfl) (by kernel_rfl) (fun _ _ _ h => h) (Some'.weak (.skip (.take (.take (.take (.nil _)))))) rfl (OpY.index (kk := (ix ps (ix xs (k * 3 + 2)).toNat).toNat) Tsl_28 rfl rfl (by omega) (by omega) (by first | rfl | omega)) ?_
            refine DW.step (i := 13) (by kernel_rfl) rfl rfl (OpStep.q (v := .int .i64 (ix (distL es m N.toNat (ix ps (ix xs (k * 3 + 1)).toNat).toNat) ((ix ps (ix xs (k * 3 + 2)).toNat).toNat))) (OpQ.y (OpY.load1 Tone_3 rfl (Cells.own0 (.head _) (pre1 (by omega))))) ?_)
            refine ⟨(Some'.weak (.skip (.take (.take (.take (.nil _)))))), ?_⟩
            refine DW.take (i := 14) (v := .int .i64 (ix (distL es m N.toNat (ix ps (ix xs (k * 3 + 1)).toNat).toNat) ((ix ps (ix xs (k * 3 + 2)).toNat).toNat))) rfl (by kernel_rfl) (by kernel_rfl) (by kernel_rfl) (fun _ _ _ h => h) (Some'.weak (.skip (.take (.take (.take (.nil _)))))) rfl (OpY.pure rfl) ?_
            refine DW.done (by kernel_rfl) ?_
            refine Run.seq ?_
            refine Run.seq ?_
            refine Run.region ?_
            refine Run.q (v := .int .i64 (ix (distL es m N.toNat (ix ps (ix xs (k * 3 + 1)).toNat).toNat) ((ix ps (ix xs (k * 3 + 2)).toNat).toNat))) rfl (OpQ.y (OpY.pure rfl)) ?_
            refine Run.q (v := .bool (decide ((ix (distL es m N.toNat (ix ps (ix xs (k * 3 + 1)).toNat).toNat) ((ix ps (ix xs (k * 3 + 2)).toNat).toNat)) < 0))) rfl (OpQ.y (OpY.pure rfl)) ?_
            refine Run.done ?_
            refine Run.cond (b := decide ((ix (distL es m N.toNat (ix ps (ix xs (k * 3 + 1)).toNat).toNat) ((ix ps (ix xs (k * 3 + 2)).toNat).toNat)) < 0)) rfl (fun h50 => ?_) (fun h50 => ?_)
            · have p50 := h50; try simp only [decide_eq_true_eq, decide_eq_false_iff_not, beq_iff_eq, bne_iff_ne, beq_eq_false_iff_ne, ne_eq, gt_iff_lt, ge_iff_le, Int.not_lt, Int.not_le, bne_eq_false_iff_eq, Bool.not_eq_true', Bool.not_eq_false', Bool.and_eq_true, Bool.and_eq_false_iff, Bool.or_eq_true, Bool.or_eq_false_iff, Decidable.not_not, List.cons.injEq, and_true] at p50
              have hb1 : sbBad N es m xs ps k = true := by rw [sbBad, h2, Bool.true_and]; exact decide_eq_true p50
              have hbad : sbOk N es m Q xs n ps pn = false := by rw [sbOk, anyI_true hltk hb1]; simp
              refine Run.seq ?_
              refine Run.region ?_
              refine Run.q (v := .int .i64 0) rfl (OpQ.y (OpY.pure rfl)) ?_
              refine Run.q (v := .bool false) rfl (OpQ.y (OpY.pure rfl)) ?_
              refine Run.done ?_
              refine Run.ret ?_
              refine ⟨.tuple #[.int .i64 0, .bool false], [], Out.two rfl rfl rfl, (Some'.weak (.nil _)), ?_⟩
              show _ = _
              rw [sbR, hbad]; rfl
            · have p50 := h50; try simp only [decide_eq_true_eq, decide_eq_false_iff_not, beq_iff_eq, bne_iff_ne, beq_eq_false_iff_ne, ne_eq, gt_iff_lt, ge_iff_le, Int.not_lt, Int.not_le, bne_eq_false_iff_eq, Bool.not_eq_true', Bool.not_eq_false', Bool.and_eq_true, Bool.and_eq_false_iff, Bool.or_eq_true, Bool.or_eq_false_iff, Decidable.not_not, List.cons.injEq, and_true] at p50
              have hgood : sbBad N es m xs ps k = false := by rw [sbBad, h2, Bool.true_and]; exact decide_eq_false (by show ¬ sbD N es m xs ps k < 0; unfold sbD; omega)
              have hnx : sbV N es m xs ps (k + 1) = max (sbV N es m xs ps k) (sbD N es m xs ps k - 1) := by rw [sbV, h2]; rfl
              have hnn := sbV_nonneg N es m xs ps k
              refine Run.skip ?_
              refine Run.region ?_
              refine Run.q (v := .int .i64 (sbV N es m xs ps k)) rfl (OpQ.y (OpY.pure rfl)) ?_
              refine Run.q (v := .int .i64 (ix (distL es m N.toNat (ix ps (ix xs (k * 3 + 1)).toNat).toNat) ((ix ps (ix xs (k * 3 + 2)).toNat).toNat))) rfl (OpQ.y (OpY.pure rfl)) ?_
              refine Run.q (v := .int .i64 ((ix (distL es m N.toNat (ix ps (ix xs (k * 3 + 1)).toNat).toNat) ((ix ps (ix xs (k * 3 + 2)).toNat).toNat)) - 1)) rfl (OpQ.y (OpY.sub rfl rfl rfl (by omega) (by omega))) ?_
              refine Run.q (v := .int .i64 (max (sbV N es m xs ps k) ((ix (distL es m N.toNat (ix ps (ix xs (k * 3 + 1)).toNat).toNat) ((ix ps (ix xs (k * 3 + 2)).toNat).toNat)) - 1))) rfl (OpQ.y (OpY.max rfl rfl)) ?_
              refine Run.q (v := .int .i64 (max (sbV N es m xs ps k) ((ix (distL es m N.toNat (ix ps (ix xs (k * 3 + 1)).toNat).toNat) ((ix ps (ix xs (k * 3 + 2)).toNat).toNat)) - 1))) rfl (OpQ.y (OpY.pure rfl)) ?_
              refine Run.done ?_
              refine Run.blockEnd ?_
              refine Run.region ?_
              refine Run.q (v := .int .i64 ((((k : Nat) : Int)) + 1)) rfl (OpQ.y (OpY.add rfl rfl rfl (by omega) (by omega))) ?_
              refine Run.q (v := .int .i64 ((((k : Nat) : Int)) + 1)) rfl (OpQ.y (OpY.pure rfl)) ?_
              refine Run.done ?_
              refine Run.goal ⟨(by repeat (first | exact Same.refl _ _ | refine Same.put rfl ?_ | refine Same.over rfl rfl ?_)), k + 1, ?_, ?_, ?_, ?_⟩
              · refine ⟨by omega, ?_⟩
                intro i hi
                rcases Nat.lt_succ_iff_lt_or_eq.1 hi with h | h
                · exact hinv.2 i h
                · rw [h]; exact hgood
              · omega
              · exact ⟨(by show Value.int _ _ = Value.int _ _; first | (rw [hnx]; done) | (rw [hnx]; rfl)), (by first | rfl | (congr 1; omega) | simp), trivial⟩
              · exact (Some'.weak (.skip (.skip (.takeEq (by first | rfl | simp) (.take (.nil _))))))
        · have p28 := h28; try simp only [decide_eq_true_eq, decide_eq_false_iff_not, beq_iff_eq, bne_iff_ne, beq_eq_false_iff_ne, ne_eq, gt_iff_lt, ge_iff_le, Int.not_lt, Int.not_le, bne_eq_false_iff_eq, Bool.not_eq_true', Bool.not_eq_false', Bool.and_eq_true, Bool.and_eq_false_iff, Bool.or_eq_true, Bool.or_eq_false_iff, Decidable.not_not, List.cons.injEq, and_true] at p28
          have hknk : k = n := by omega
          have hall : anyI (sbBad N es m xs ps) n = false := by rw [← hknk]; exact anyI_false hinv.2
          refine Run.exit rfl ?_
          refine Run.seq ?_
          refine Run.region ?_
          refine Run.q (v := .int .i64 (sbV N es m xs ps k)) rfl (OpQ.y (OpY.pure rfl)) ?_
          refine Run.q (v := .int .i64 (sbV N es m xs ps k)) rfl (OpQ.y (OpY.pure rfl)) ?_
          refine Run.q (v := .bool true) rfl (OpQ.y (OpY.pure rfl)) ?_
          refine Run.done ?_
          refine Run.ret ?_
          refine ⟨.tuple #[.int .i64 (sbV N es m xs ps k), .bool true], [], Out.two rfl rfl rfl, (Some'.weak (.nil _)), ?_⟩
          show _ = _
          have hok : sbOk N es m Q xs n ps pn = true := by rw [sbOk, hfit, hpok, hall]; rfl
          rw [sbR, hok, if_pos rfl, hknk]

set_option maxHeartbeats 1000000 in
set_option maxRecDepth 20000 in
theorem sSwapBound_spec {N Q : Int} {vg va vp : Value} {m n pn : Nat} {es xs ps : List Int} {w : World} (hN : In64 N) (hw : ∀ x ∈ es, In64 x) (hg : Sl w vg 2 m (ints es)) (ha : Sl w va 3 n (ints xs)) (hp : Sl w vp 1 pn (ints ps)) : Calls Try.prog 17 #[.agg #[.int .i64 N, vg], .agg #[.int .i64 Q, va], vp] w (Post No w fun v _ => v = .tuple #[.int .i64 (sbR N es m Q xs n ps pn), .bool (sbOk N es m Q xs n ps pn)]) := by
  have hxl := ha.len
  have hn := ha.le
  obtain ⟨A, c, rfl, _, _⟩ := ha.form0
  have hpl := hp.len
  obtain ⟨Ap, cp, rfl, _, _⟩ := hp.form0
  refine enter (n := 56) (args := [.agg #[.int .i64 N, vg], .agg #[.int .i64 Q, .slice A n c], .slice Ap pn cp]) Try.func17 rfl rfl (St.empty _ _) ?_
  refine Run.seq ?_
  refine Run.region ?_
  refine Run.step rfl (OpStep.box (us := [.int .i64 N, vg]) rfl fun b1 => ?_)
  refine Run.step rfl (OpStep.box (us := [.int .i64 Q, .slice A n c]) rfl fun b2 => ?_)
  refine Run.q (v := .int .i64 0) rfl (OpQ.y (OpY.pure rfl)) ?_
  refine Run.q (v := .bool false) rfl (OpQ.y (OpY.pure rfl)) ?_
  refine Run.done ?_
  refine Run.seq ?_
  refine Run.seq ?_
  refine Run.region ?_
  refine Run.q (v := .agg #[.int .i64 N, vg]) rfl (OpQ.y (OpY.loadN (cs := [.int .i64 N, vg]) Tagg_35 rfl (Cells.blk (.tail _ (List.Mem.head _)) ⟨rfl, rfl, trivial⟩))) ?_
  refine Run.q (v := .agg #[.int .i64 Q, .slice A n c]) rfl (OpQ.y (OpY.loadN (cs := [.int .i64 Q, .slice A n c]) Tagg_39 rfl (Cells.blk (.head _) ⟨rfl, rfl, trivial⟩))) ?_
  refine Run.q (v := .bool (fitOk N es m Q xs n)) rfl (OpQ.call (vs := [.agg #[.int .i64 N, vg], .agg #[.int .i64 Q, .slice A n c]]) (caps := []) Tcall_70 rfl rfl (fun w hs => l23Fits_spec hN hw (hs.sl hg) (hs.sl ha))) ?_
  refine Run.q (v := .bool (!(fitOk N es m Q xs n))) rfl (OpQ.y (OpY.pure rfl)) ?_
  rcases Bool.eq_false_or_eq_true (!(fitOk N es m Q xs n)) with h16 | h16
  · refine Run.q (v := .bool true) rfl (OpQ.y (OpY.moveB rfl h16)) ?_
    have p16 := h16; try simp only [decide_eq_true_eq, decide_eq_false_iff_not, beq_iff_eq, bne_iff_ne, beq_eq_false_iff_ne, ne_eq, gt_iff_lt, ge_iff_le, Int.not_lt, Int.not_le, bne_eq_false_iff_eq, Bool.not_eq_true', Bool.not_eq_false', Bool.and_eq_true, Bool.and_eq_false_iff, Bool.or_eq_true, Bool.or_eq_false_iff, Decidable.not_not, List.cons.injEq, and_true] at p16
    refine Run.pass rfl ?_
    refine Run.pass rfl ?_
    refine Run.pass rfl ?_
    refine Run.pass rfl ?_
    refine Run.pass rfl ?_
    refine Run.pass rfl ?_
    refine Run.q (v := .bool true) rfl (OpQ.y (OpY.pure rfl)) ?_
    refine Run.done ?_
    refine Run.cond (b := true) rfl (fun _ => ?_) (fun h => nomatch h)
    refine Run.seq ?_
    have hbad : sbOk N es m Q xs n ps pn = false := by simp_all [sbOk]
    refine Run.region ?_
    refine Run.q (v := .int .i64 0) rfl (OpQ.y (OpY.pure rfl)) ?_
    refine Run.q (v := .bool false) rfl (OpQ.y (OpY.pure rfl)) ?_
    refine Run.done ?_
    refine Run.ret ?_
    refine ⟨.tuple #[.int .i64 0, .bool false], [], Out.two rfl rfl rfl, (Some'.weak (.nil _)), ?_⟩
    show _ = _
    rw [sbR, hbad]; rfl
  · refine Run.q (v := .bool false) rfl (OpQ.y (OpY.moveB rfl h16)) ?_
    have p16 := h16; try simp only [decide_eq_true_eq, decide_eq_false_iff_not, beq_iff_eq, bne_iff_ne, beq_eq_false_iff_ne, ne_eq, gt_iff_lt, ge_iff_le, Int.not_lt, Int.not_le, bne_eq_false_iff_eq, Bool.not_eq_true', Bool.not_eq_false', Bool.and_eq_true, Bool.and_eq_false_iff, Bool.or_eq_true, Bool.or_eq_false_iff, Decidable.not_not, List.cons.injEq, and_true] at p16
    have hfit0 : fitOk N es m Q xs n = true := by simpa using p16
    have hcN0 : 1 ≤ N ∧ N ≤ 8 := by
      simp only [fitOk, Bool.and_eq_true] at hfit0
      exact cgOk_N hfit0.1.1
    refine Run.q (v := .agg #[.int .i64 N, vg]) rfl (OpQ.y (OpY.loadN (cs := [.int .i64 N, vg]) Tagg_35 rfl (Cells.blk (.tail _ (List.Mem.head _)) ⟨rfl, rfl, trivial⟩))) ?_
    refine Run.q (v := .pointer (some ⟨b2, 0, none⟩)) rfl (OpQ.y (OpY.fieldAddr Tfo_39_0 rfl rfl)) ?_
    refine Run.q (v := .int .i64 Q) rfl (OpQ.y (OpY.load1 Tone_3 rfl (Cells.blk (.head _) ⟨rfl, trivial⟩))) ?_
    refine Run.q (v := .slice Ap pn cp) rfl (OpQ.y (OpY.pure rfl)) ?_
    refine Run.q (v := .bool (plOk N Q ps pn)) rfl (OpQ.call (vs := [.agg #[.int .i64 N, vg], .int .i64 Q, .slice Ap pn cp]) (caps := []) Tcall_71 rfl rfl (fun w hs => l23Placement_spec hcN0 (hs.sl hp))) ?_
    refine Run.q (v := .bool (!(plOk N Q ps pn))) rfl (OpQ.y (OpY.pure rfl)) ?_
    refine Run.q (v := .bool (!(plOk N Q ps pn))) rfl (OpQ.y (OpY.pure rfl)) ?_
    refine Run.done ?_
    refine Run.cond (b := !(plOk N Q ps pn)) rfl (fun h23 => ?_) (fun h23 => ?_)
    · have p23 := h23; try simp only [decide_eq_true_eq, decide_eq_false_iff_not, beq_iff_eq, bne_iff_ne, beq_eq_false_iff_ne, ne_eq, gt_iff_lt, ge_iff_le, Int.not_lt, Int.not_le, bne_eq_false_iff_eq, Bool.not_eq_true', Bool.not_eq_false', Bool.and_eq_true, Bool.and_eq_false_iff, Bool.or_eq_true, Bool.or_eq_false_iff, Decidable.not_not, List.cons.injEq, and_true] at p23
      refine Run.seq ?_
      have hbad : sbOk N es m Q xs n ps pn = false := by simp_all [sbOk]
      refine Run.region ?_
      refine Run.q (v := .int .i64 0) rfl (OpQ.y (OpY.pure rfl)) ?_
      refine Run.q (v := .bool false) rfl (OpQ.y (OpY.pure rfl)) ?_
      refine Run.done ?_
      refine Run.ret ?_
      refine ⟨.tuple #[.int .i64 0, .bool false], [], Out.two rfl rfl rfl, (Some'.weak (.nil _)), ?_⟩
      show _ = _
      rw [sbR, hbad]; rfl
    · have p23 := h23; try simp only [decide_eq_true_eq, decide_eq_false_iff_not, beq_iff_eq, bne_iff_ne, beq_eq_false_iff_ne, ne_eq, gt_iff_lt, ge_iff_le, Int.not_lt, Int.not_le, bne_eq_false_iff_eq, Bool.not_eq_true', Bool.not_eq_false', Bool.and_eq_true, Bool.and_eq_false_iff, Bool.or_eq_true, Bool.or_eq_false_iff, Decidable.not_not, List.cons.injEq, and_true] at p23
      refine Run.skip ?_
      refine Run.seq ?_
      have hfit : fitOk N es m Q xs n = true := by simp_all
      have hpok : plOk N Q ps pn = true := by simp_all
      have hfit2 := hfit
      simp only [fitOk, Bool.and_eq_true, decide_eq_true_eq] at hfit2
      have hcg := hfit2.1.1
      have hci := hfit2.1.2
      have hcN := cgOk_N hcg
      have hcQ := circOk_N hci
      refine Run.region ?_
      refine Run.q (v := .int .i64 0) rfl (OpQ.y (OpY.pure rfl)) ?_
      refine Run.done ?_
      refine Run.seq ?_
      refine Run.seq ?_
      refine Run.region ?_
      refine Run.q (v := .pointer (some ⟨b2, 1, none⟩)) rfl (OpQ.y (OpY.fieldAddr Tfo_39_1 rfl rfl)) ?_
      refine Run.q (v := .slice A n c) rfl (OpQ.y (OpY.load1 Tone_37 rfl (Cells.blk (.head _) ⟨rfl, trivial⟩))) ?_
      refine Run.q (v := .int .i64 (((n : Nat) : Int))) rfl (OpQ.y (OpY.len Tsl_37 rfl)) ?_
      refine Run.q (v := .int .i64 0) rfl (OpQ.y (OpY.pure rfl)) ?_
      refine Run.done ?_
      refine Run.block ?_
      refine Run.loop (ι := Nat) [6, 7, 8, 10, 11, 27, 28, 29, 30, 31, 32, 33, 34, 35, 36, 37, 38, 39, 40, 41, 42, 43, 44, 45, 46, 47, 48, 49, 50, 51, 52, 53, 54] (fun k => [(8, .int .i64 (sbV N es m xs ps k)), (27, .int .i64 (((k : Nat) : Int)))]) (fun k => [.blk b2 39 [.int .i64 Q, .slice A n c], .blk b1 35 [.int .i64 N, vg]]) (fun k => k ≤ n ∧ (∀ i, i < k → sbBad N es m xs ps i = false)) (fun k => n - k) 0 ?_ ?_ ?_ ?_
      · exact ⟨Nat.zero_le _, by first | trivial | (intro i hi; omega)⟩
      · exact ⟨rfl, rfl, trivial⟩
      · exact (Some'.weak (.take (.take (.nil _))))
      · rintro k fr hinv
        show Run _ _ (over _ _ [(8, .int .i64 (sbV N es m xs ps k)), (27, .int .i64 (((k : Nat) : Int)))] fr) [.blk b2 39 [.int .i64 Q, .slice A n c], .blk b1 35 [.int .i64 N, vg]]
        try dsimp only at hinv
        refine Run.seq ?_
        refine Run.region ?_
        refine Run.q (v := .bool (decide ((((k : Nat) : Int)) < (((n : Nat) : Int))))) rfl (OpQ.y (OpY.pure rfl)) ?_
        refine Run.done ?_
        refine Run.seq ?_
        refine Run.cond (b := decide ((((k : Nat) : Int)) < (((n : Nat) : Int)))) rfl (fun h28 => ?_) (fun h28 => ?_)
        · have p28 := h28; try simp only [decide_eq_true_eq, decide_eq_false_iff_not, beq_iff_eq, bne_iff_ne, beq_eq_false_iff_ne, ne_eq, gt_iff_lt, ge_iff_le, Int.not_lt, Int.not_le, bne_eq_false_iff_eq, Bool.not_eq_true', Bool.not_eq_false', Bool.and_eq_true, Bool.and_eq_false_iff, Bool.or_eq_true, Bool.or_eq_false_iff, Decidable.not_not, List.cons.injEq, and_true] at p28
          have hltk : k < n := by omega
          obtain ⟨b, o, rfl⟩ := ha.opn (by omega)
          refine Run.skip ?_
          refine Run.seq ?_
          refine Run.block ?_
          refine Run.seq ?_
          refine Run.region ?_
          refine Run.q (v := .pointer (some ⟨b, o + k * 3, none⟩)) rfl (OpQ.y (OpY.index (kk := k) Tsl_37 rfl rfl (by omega) (by omega) (by first | rfl | omega))) ?_
          refine Run.q (v := .agg #[.int .i64 (ix xs (k * 3)), .int .i64 (ix xs (k * 3 + 1)), .int .i64 (ix xs (k * 3 + 2))]) rfl (OpQ.y (OpY.loadN (cs := [.int .i64 (ix xs (k * 3)), .int .i64 (ix xs (k * 3 + 1)), .int .i64 (ix xs (k * 3 + 2))]) Tagg_106 rfl (Cells.arg (k := k * 3) ha rfl (by omega) (pre3 (by omega))))) ?_
          refine Run.step rfl (OpStep.alloc (zs := [.int .i64 0, .int .i64 0, .int .i64 0]) Tzero_106 fun b3 => ?_)
          refine Run.step rfl (OpStep.storeAll (us := [.int .i64 (ix xs (k * 3)), .int .i64 (ix xs (k * 3 + 1)), .int .i64 (ix xs (k * 3 + 2))]) Tsize_106 rfl rfl rfl (.here _) rfl ?_)
          refine Run.done ?_
          refine Run.seq ?_
          refine Run.seq ?_
          refine Run.region ?_
          refine Run.q (v := .agg #[.int .i64 (ix xs (k * 3)), .int .i64 (ix xs (k * 3 + 1)), .int .i64 (ix xs (k * 3 + 2))]) rfl (OpQ.y (OpY.loadN (cs := [.int .i64 (ix xs (k * 3)), .int .i64 (ix xs (k * 3 + 1)), .int .i64 (ix xs (k * 3 + 2))]) Tagg_106 rfl (Cells.blk (.head _) ⟨rfl, rfl, rfl, trivial⟩))) ?_
          refine Run.q (v := .bool (decide (9 ≤ ix xs (k * 3) ∧ ix xs (k * 3) ≤ 11))) rfl (OpQ.call (vs := [.agg #[.int .i64 (ix xs (k * 3)), .int .i64 (ix xs (k * 3 + 1)), .int .i64 (ix xs (k * 3 + 2))]]) (caps := []) Tcall_72 rfl rfl (fun w hs => l22Two_spec _ _ _ w)) ?_
          refine Run.q (v := .bool (!(decide (9 ≤ ix xs (k * 3) ∧ ix xs (k * 3) ≤ 11)))) rfl (OpQ.y (OpY.pure rfl)) ?_
          refine Run.done ?_
          refine Run.cond (b := !(decide (9 ≤ ix xs (k * 3) ∧ ix xs (k * 3) ≤ 11))) rfl (fun h33 => ?_) (fun h33 => ?_)
          · have p33 := h33; try simp only [decide_eq_true_eq, decide_eq_false_iff_not, beq_iff_eq, bne_iff_ne, beq_eq_false_iff_ne, ne_eq, gt_iff_lt, ge_iff_le, Int.not_lt, Int.not_le, bne_eq_false_iff_eq, Bool.not_eq_true', Bool.not_eq_false', Bool.and_eq_true, Bool.and_eq_false_iff, Bool.or_eq_true, Bool.or_eq_false_iff, Decidable.not_not, List.cons.injEq, and_true] at p33
            have h2 : isTwoI (ix xs (k * 3)) = false := by simp_all [isTwoI]
            have hgood : sbBad N es m xs ps k = false := by rw [sbBad, h2]; rfl
            have hnx : sbV N es m xs ps (k + 1) = sbV N es m xs ps k := by rw [sbV, h2]; rfl
            refine Run.exit rfl ?_
            refine Run.region ?_
            refine Run.q (v := .int .i64 ((((k : Nat) : Int)) + 1)) rfl (OpQ.y (OpY.add rfl rfl rfl (by omega) (by omega))) ?_
            refine Run.q (v := .int .i64 ((((k : Nat) : Int)) + 1)) rfl (OpQ.y (OpY.pure rfl)) ?_
            refine Run.done ?_
            refine Run.goal ⟨(by repeat (first | exact Same.refl _ _ | refine Same.put rfl ?_ | refine Same.over rfl rfl ?_)), k + 1, ?_, ?_, ?_, ?_⟩
            · refine ⟨by omega, ?_⟩
              intro i hi
              rcases Nat.lt_succ_iff_lt_or_eq.1 hi with h | h
              · exact hinv.2 i h
              · rw [h]; exact hgood
            · omega
            · exact ⟨(by show Value.int _ _ = Value.int _ _; first | (rw [hnx]; done) | (rw [hnx]; rfl)), (by first | rfl | (congr 1; omega) | simp), trivial⟩
            · exact (Some'.weak (.skip (.takeEq (by first | rfl | simp) (.take (.nil _)))))
          · have p33 := h33; try simp only [decide_eq_true_eq, decide_eq_false_iff_not, beq_iff_eq, bne_iff_ne, beq_eq_false_iff_ne, ne_eq, gt_iff_lt, ge_iff_le, Int.not_lt, Int.not_le, bne_eq_false_iff_eq, Bool.not_eq_true', Bool.not_eq_false', Bool.and_eq_true, Bool.and_eq_false_iff, Bool.or_eq_true, Bool.or_eq_false_iff, Decidable.not_not, List.cons.injEq, and_true] at p33
            have h2 : isTwoI (ix xs (k * 3)) = true := by simp_all [isTwoI]
            have hta := two_args (circOk_gate hci hltk) h2
            have hp1 := plOk_at hpok hta.1 hta.2.1
            have hp2 := plOk_at hpok hta.2.2.1 hta.2.2.2.1
            obtain ⟨bp, op, rfl⟩ := hp.opn (by omega)
            refine Run.skip ?_
            refine Run.seq ?_
            refine Run.held (by kernel_rfl) ?_
            refine DW.take (i := 0) (v := .agg #[.int .i64 N, vg]) rfl (by kernel_rfl) (by kernel_rfl) (by kernel_rfl) (fun _ _ _ h => h) (Weak.refl _) rfl (OpY.loadN (cs := [.int .i64 N, vg]) Tagg_35 rfl (Cells.blk (.tail _ (.tail _ (List.Mem.head _))) ⟨rfl, rfl, trivial⟩)) ?_
            refine DW.take (i := 1) (v := .slice (some ⟨bp, op, none⟩) pn cp) rfl (by kernel_rfl) (by kernel_rfl) (by kernel_rfl) (fun _ _ _ h => h) (Weak.refl _) rfl (OpY.pure rfl) ?_
            refine DW.take (i := 2) (v := .pointer (some ⟨b3, 1, none⟩)) rfl (by kernel_rfl) (by kernel_rfl) (by kernel_rfl) (fun _ _ _ h => h) (Weak.refl _) rfl (OpY.fieldAddr Tfo_106_1 rfl rfl) ?_
            refine DW.take (i := 3) (v := .int .i64 (ix xs (k * 3 + 1))) rfl (by kernel_rfl) (by kernel_rfl) (by kernel_rfl) (fun _ _ _ h => h) (Weak.refl _) rfl (OpY.load1 Tone_3 rfl (Cells.blk (.head _) ⟨rfl, trivial⟩)) ?_
            refine DW.take (i := 4) (v := .pointer (some ⟨bp, op + (ix xs (k * 3 + 1)).toNat, none⟩)) rfl (by kernel_rfl) (by kernel_rfl) (by kernel_rfl) (fun _ _ _ h => h) (Weak.refl _) rfl (OpY.index (kk := (ix xs (k * 3 + 1)).toNat) Tsl_28 rfl rfl (by omega) (by omega) (by first | rfl | omega)) ?_
            refine DW.take (i := 5) (v := .int .i64 (ix ps ((ix xs (k * 3 + 1)).toNat))) rfl (by kernel_rfl) (by kernel_rfl) (by kernel_rfl) (fun _ _ _ h => h) (Weak.refl _) rfl (OpY.load1 Tone_3 rfl (Cells.arg (k := (ix xs (k * 3 + 1)).toNat) hp rfl (by omega) (pre1 (by omega)))) ?_
            refine DW.take (i := 7) (v := .slice (some ⟨bp, op, none⟩) pn cp) rfl (by kernel_rfl) (by kernel_rfl) (by kernel_rfl) (fun _ _ _ h => h) (Weak.refl _) rfl (OpY.pure rfl) ?_
            refine DW.take (i := 8) (v := .pointer (some ⟨b3, 2, none⟩)) rfl (by kernel_rfl) (by kernel_rfl) (by kernel_rfl) (fun _ _ _ h => h) (Weak.refl _) rfl (OpY.fieldAddr Tfo_106_2 rfl rfl) ?_
            refine DW.take (i := 9) (v := .int .i64 (ix xs (k * 3 + 2))) rfl (by kernel_rfl) (by kernel_rfl) (by kernel_rfl) (fun _ _ _ h => h) (Weak.refl _) rfl (OpY.load1 Tone_3 rfl (Cells.blk (.head _) ⟨rfl, trivial⟩)) ?_
            refine DW.take (i := 10) (v := .pointer (some ⟨bp, op + (ix xs (k * 3 + 2)).toNat, none⟩)) rfl (by kernel_rfl) (by kernel_rfl) (by kernel_rfl) (fun _ _ _ h => h) (Weak.refl _) rfl (OpY.index (kk := (ix xs (k * 3 + 2)).toNat) Tsl_28 rfl rfl (by omega) (by omega) (by first | rfl | omega)) ?_
            refine DW.take (i := 11) (v := .int .i64 (ix ps ((ix xs (k * 3 + 2)).toNat))) rfl (by kernel_rfl) (by kernel_rfl) (by kernel_rfl) (fun _ _ _ h => h) (Weak.refl _) rfl (OpY.load1 Tone_3 rfl (Cells.arg (k := (ix xs (k * 3 + 2)).toNat) hp rfl (by omega) (pre1 (by omega)))) ?_
            refine DW.step (i := 6) (by kernel_rfl) rfl rfl (OpStep.call (vs := [.agg #[.int .i64 N, vg], .int .i64 (ix ps ((ix xs (k * 3 + 1)).toNat))]) (caps := []) Tcall_73 rfl rfl (fun w hs => l22Far_spec hcN ⟨by omega, by omega⟩ (cgOk_edges hcg) (hs.sl hg)) ?_)
            rintro uo _ ⟨hd, rfl⟩
            have hdl := hd.len
            have hlvl := level_lt (by omega) hd.src hd.par (v := (ix ps (ix xs (k * 3 + 2)).toNat).toNat) (by omega)
            refine ⟨(Some'.weak (.skip (.take (.take (.take (.nil _)))))), ?_⟩
            refine DW.openOwn (.head _) (by omega) (fun go co hvgo hcapgo _ => ?_)
            subst hvgo
            refine DW.take (i := 12) (v := .pointer (some ⟨go, (ix ps (ix xs (k * 3 + 2)).toNat).toNat, none⟩)) rfl (by kernel_rfl) (by kernel_rfl) (by kernel_rfl) (fun _ _ _ h => h) (Some'.weak (.skip (.take (.take (.take (.nil _)))))) rfl (OpY.index (kk := (ix ps (ix xs (k * 3 + 2)).toNat).toNat) Tsl_28 rfl rfl (by omega) (by omega) (by first | rfl | omega)) ?_
            refine DW.step (i := 13) (by kernel_rfl) rfl rfl (OpStep.q (v := .int .i64 (ix (distL es m N.toNat (ix ps (ix xs (k * 3 + 1)).toNat).toNat) ((ix ps (ix xs (k * 3 + 2)).toNat).toNat))) (OpQ.y (OpY.load1 Tone_3 rfl (Cells.own0 (.head _) (pre1 (by omega))))) ?_)
            refine ⟨(Some'.weak (.skip (.take (.take (.take (.nil _)))))), ?_⟩
            refine DW.take (i := 14) (v := .int .i64 (ix (distL es m N.toNat (ix ps (ix xs (k * 3 + 1)).toNat).toNat) ((ix ps (ix xs (k * 3 + 2)).toNat).toNat))) rfl (by kernel_rfl) (by kernel_rfl) (by kernel_rfl) (fun _ _ _ h => h) (Some'.weak (.skip (.take (.take (.take (.nil _)))))) rfl (OpY.pure rfl) ?_
            refine DW.done (by kernel_rfl) ?_
            refine Run.seq ?_
            refine Run.seq ?_
            refine Run.region ?_
            refine Run.q (v := .int .i64 (ix (distL es m N.toNat (ix ps (ix xs (k * 3 + 1)).toNat).toNat) ((ix ps (ix xs (k * 3 + 2)).toNat).toNat))) rfl (OpQ.y (OpY.pure rfl)) ?_
            refine Run.q (v := .bool (decide ((ix (distL es m N.toNat (ix ps (ix xs (k * 3 + 1)).toNat).toNat) ((ix ps (ix xs (k * 3 + 2)).toNat).toNat)) < 0))) rfl (OpQ.y (OpY.pure rfl)) ?_
            refine Run.done ?_
            refine Run.cond (b := decide ((ix (distL es m N.toNat (ix ps (ix xs (k * 3 + 1)).toNat).toNat) ((ix ps (ix xs (k * 3 + 2)).toNat).toNat)) < 0)) rfl (fun h49 => ?_) (fun h49 => ?_)
            · have p49 := h49; try simp only [decide_eq_true_eq, decide_eq_false_iff_not, beq_iff_eq, bne_iff_ne, beq_eq_false_iff_ne, ne_eq, gt_iff_lt, ge_iff_le, Int.not_lt, Int.not_le, bne_eq_false_iff_eq, Bool.not_eq_true', Bool.not_eq_false', Bool.and_eq_true, Bool.and_eq_false_iff, Bool.or_eq_true, Bool.or_eq_false_iff, Decidable.not_not, List.cons.injEq, and_true] at p49
              have hb1 : sbBad N es m xs ps k = true := by rw [sbBad, h2, Bool.true_and]; exact decide_eq_true p49
              have hbad : sbOk N es m Q xs n ps pn = false := by rw [sbOk, anyI_true hltk hb1]; simp
              refine Run.seq ?_
              refine Run.region ?_
              refine Run.q (v := .int .i64 0) rfl (OpQ.y (OpY.pure rfl)) ?_
              refine Run.q (v := .bool false) rfl (OpQ.y (OpY.pure rfl)) ?_
              refine Run.done ?_
              refine Run.ret ?_
              refine ⟨.tuple #[.int .i64 0, .bool false], [], Out.two rfl rfl rfl, (Some'.weak (.nil _)), ?_⟩
              show _ = _
              rw [sbR, hbad]; rfl
            · have p49 := h49; try simp only [decide_eq_true_eq, decide_eq_false_iff_not, beq_iff_eq, bne_iff_ne, beq_eq_false_iff_ne, ne_eq, gt_iff_lt, ge_iff_le, Int.not_lt, Int.not_le, bne_eq_false_iff_eq, Bool.not_eq_true', Bool.not_eq_false', Bool.and_eq_true, Bool.and_eq_false_iff, Bool.or_eq_true, Bool.or_eq_false_iff, Decidable.not_not, List.cons.injEq, and_true] at p49
              have hgood : sbBad N es m xs ps k = false := by rw [sbBad, h2, Bool.true_and]; exact decide_eq_false (by show ¬ sbD N es m xs ps k < 0; unfold sbD; omega)
              have hnx : sbV N es m xs ps (k + 1) = max (sbV N es m xs ps k) (sbD N es m xs ps k - 1) := by rw [sbV, h2]; rfl
              have hnn := sbV_nonneg N es m xs ps k
              refine Run.skip ?_
              refine Run.region ?_
              refine Run.q (v := .int .i64 (sbV N es m xs ps k)) rfl (OpQ.y (OpY.pure rfl)) ?_
              refine Run.q (v := .int .i64 (ix (distL es m N.toNat (ix ps (ix xs (k * 3 + 1)).toNat).toNat) ((ix ps (ix xs (k * 3 + 2)).toNat).toNat))) rfl (OpQ.y (OpY.pure rfl)) ?_
              refine Run.q (v := .int .i64 ((ix (distL es m N.toNat (ix ps (ix xs (k * 3 + 1)).toNat).toNat) ((ix ps (ix xs (k * 3 + 2)).toNat).toNat)) - 1)) rfl (OpQ.y (OpY.sub rfl rfl rfl (by omega) (by omega))) ?_
              refine Run.q (v := .int .i64 (max (sbV N es m xs ps k) ((ix (distL es m N.toNat (ix ps (ix xs (k * 3 + 1)).toNat).toNat) ((ix ps (ix xs (k * 3 + 2)).toNat).toNat)) - 1))) rfl (OpQ.call (vs := [.int .i64 (sbV N es m xs ps k), .int .i64 ((ix (distL es m N.toNat (ix ps (ix xs (k * 3 + 1)).toNat).toNat) ((ix ps (ix xs (k * 3 + 2)).toNat).toNat)) - 1)]) (caps := []) Tcall_74 rfl rfl (fun w hs => l1Most_spec _ _ w)) ?_
              refine Run.q (v := .int .i64 (max (sbV N es m xs ps k) ((ix (distL es m N.toNat (ix ps (ix xs (k * 3 + 1)).toNat).toNat) ((ix ps (ix xs (k * 3 + 2)).toNat).toNat)) - 1))) rfl (OpQ.y (OpY.pure rfl)) ?_
              refine Run.done ?_
              refine Run.blockEnd ?_
              refine Run.region ?_
              refine Run.q (v := .int .i64 ((((k : Nat) : Int)) + 1)) rfl (OpQ.y (OpY.add rfl rfl rfl (by omega) (by omega))) ?_
              refine Run.q (v := .int .i64 ((((k : Nat) : Int)) + 1)) rfl (OpQ.y (OpY.pure rfl)) ?_
              refine Run.done ?_
              refine Run.goal ⟨(by repeat (first | exact Same.refl _ _ | refine Same.put rfl ?_ | refine Same.over rfl rfl ?_)), k + 1, ?_, ?_, ?_, ?_⟩
              · refine ⟨by omega, ?_⟩
                intro i hi
                rcases Nat.lt_succ_iff_lt_or_eq.1 hi with h | h
                · exact hinv.2 i h
                · rw [h]; exact hgood
              · omega
              · exact ⟨(by show Value.int _ _ = Value.int _ _; first | (rw [hnx]; done) | (rw [hnx]; rfl)), (by first | rfl | (congr 1; omega) | simp), trivial⟩
              · exact (Some'.weak (.skip (.skip (.takeEq (by first | rfl | simp) (.take (.nil _))))))
        · have p28 := h28; try simp only [decide_eq_true_eq, decide_eq_false_iff_not, beq_iff_eq, bne_iff_ne, beq_eq_false_iff_ne, ne_eq, gt_iff_lt, ge_iff_le, Int.not_lt, Int.not_le, bne_eq_false_iff_eq, Bool.not_eq_true', Bool.not_eq_false', Bool.and_eq_true, Bool.and_eq_false_iff, Bool.or_eq_true, Bool.or_eq_false_iff, Decidable.not_not, List.cons.injEq, and_true] at p28
          have hknk : k = n := by omega
          have hall : anyI (sbBad N es m xs ps) n = false := by rw [← hknk]; exact anyI_false hinv.2
          refine Run.exit rfl ?_
          refine Run.seq ?_
          refine Run.region ?_
          refine Run.q (v := .int .i64 (sbV N es m xs ps k)) rfl (OpQ.y (OpY.pure rfl)) ?_
          refine Run.q (v := .int .i64 (sbV N es m xs ps k)) rfl (OpQ.y (OpY.pure rfl)) ?_
          refine Run.q (v := .bool true) rfl (OpQ.y (OpY.pure rfl)) ?_
          refine Run.done ?_
          refine Run.ret ?_
          refine ⟨.tuple #[.int .i64 (sbV N es m xs ps k), .bool true], [], Out.two rfl rfl rfl, (Some'.weak (.nil _)), ?_⟩
          show _ = _
          have hok : sbOk N es m Q xs n ps pn = true := by rw [sbOk, hfit, hpok, hall]; rfl
          rw [sbR, hok, if_pos rfl, hknk]

end Go.Proofs.Ytbadfklelbapkaa
