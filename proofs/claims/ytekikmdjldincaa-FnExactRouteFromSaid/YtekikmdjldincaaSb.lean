/- Walks: SwapBound of the program and of the reference; circuits that fit a coupling graph. -/
import Derived.Test.YtekikmdjldincaaCi
import Derived.Test.YtekikmdjldincaaDs
import Derived.Test.YtekikmdjldincaaDi
import Derived.Test.YtekikmdjldincaaProg
set_option linter.unusedSimpArgs false
set_option linter.unusedVariables false
namespace Go.Proofs.Ytekikmdjldincaa
open Go Go.RowKit
namespace SbT
theorem Tagg_35 : aggOf Try.prog 35 = some 2 := by kernel_rfl
theorem Tagg_39 : aggOf Try.prog 39 = some 2 := by kernel_rfl
theorem Tcall_80 : callable Try.prog 80 = true := by kernel_rfl
theorem Tcall_81 : callable Try.prog 81 = true := by kernel_rfl
theorem Tcall_86 : callable Try.prog 86 = true := by kernel_rfl
theorem Tcall_87 : callable Try.prog 87 = true := by kernel_rfl
theorem Tfo_35_0 : fieldOff Try.prog 35 0 = some 0 := by kernel_rfl
theorem Tfo_39_0 : fieldOff Try.prog 39 0 = some 0 := by kernel_rfl
theorem Tone_3 : oneOf Try.prog 3 = true := by kernel_rfl
end SbT
open SbT

def fitOk (N : Int) (es : List Int) (m : Nat) (Q : Int) (xs : List Int) (n : Nat) : Bool := cgOk N es m && circOk Q xs n && decide (Q ≤ N)
def plOk (N Q : Int) (ps : List Int) (pn : Nat) : Bool := placeOk N ps pn && decide ((pn : Int) = Q)
def isTwoI (k : Int) : Bool := decide (9 ≤ k ∧ k ≤ 11)
/-- The distance of the qubits of gate i. -/
noncomputable def sbD (N : Int) (es : List Int) (m : Nat) (xs ps : List Int) (i : Nat) : Int :=
  ix (distL es m N.toNat (ix ps (ix xs (i * 3 + 1)).toNat).toNat) (ix ps (ix xs (i * 3 + 2)).toNat).toNat
noncomputable def sbBad (N : Int) (es : List Int) (m : Nat) (xs ps : List Int) (i : Nat) : Bool := isTwoI (ix xs (i * 3)) && decide (sbD N es m xs ps i < 0)
noncomputable def sbV (N : Int) (es : List Int) (m : Nat) (xs ps : List Int) : Nat → Int
  | 0 => 0
  | k + 1 => if isTwoI (ix xs (k * 3)) then max (sbV N es m xs ps k) (sbD N es m xs ps k - 1) else sbV N es m xs ps k
noncomputable def sbOk (N : Int) (es : List Int) (m : Nat) (Q : Int) (xs : List Int) (n : Nat) (ps : List Int) (pn : Nat) : Bool :=
  fitOk N es m Q xs n && plOk N Q ps pn && !anyI (sbBad N es m xs ps) n
noncomputable def sbR (N : Int) (es : List Int) (m : Nat) (Q : Int) (xs : List Int) (n : Nat) (ps : List Int) (pn : Nat) : Int := if sbOk N es m Q xs n ps pn then sbV N es m xs ps n else 0
theorem plOk_at {N Q : Int} {ps : List Int} {pn : Nat} (h : plOk N Q ps pn = true) {a : Int} (h0 : 0 ≤ a) (h1 : a < Q) : a.toNat < pn ∧ 0 ≤ ix ps a.toNat ∧ ix ps a.toNat < N := by
  simp only [plOk, Bool.and_eq_true, decide_eq_true_eq] at h
  have hl : a.toNat < pn := by omega
  have := allI_iff.1 h.1 a.toNat hl
  simp only [Bool.and_eq_true] at this
  have := within_iff.1 this.1
  exact ⟨hl, by omega, by omega⟩
theorem two_args {Q : Int} {xs : List Int} {i : Nat} (hg : gateAt Q xs i = true) (h2 : isTwoI (ix xs (i * 3)) = true) : 0 ≤ ix xs (i * 3 + 1) ∧ ix xs (i * 3 + 1) < Q ∧ 0 ≤ ix xs (i * 3 + 2) ∧ ix xs (i * 3 + 2) < Q ∧ ix xs (i * 3 + 1) ≠ ix xs (i * 3 + 2) := by
  have := of_decide_eq_true h2
  rcases gateOk_split hg with h1 | h1 | h1 <;> omega
theorem sbV_nonneg (N : Int) (es : List Int) (m : Nat) (xs ps : List Int) : ∀ k, 0 ≤ sbV N es m xs ps k
  | 0 => Int.le_refl _
  | k + 1 => by have := sbV_nonneg N es m xs ps k; simp only [sbV]; split <;> omega

set_option maxHeartbeats 1000000 in
set_option maxRecDepth 20000 in
theorem canRoute_spec {N Q : Int} {vg va : Value} {m n : Nat} {es xs : List Int} {w : World} (hg : Sl w vg 2 m (ints es)) (ha : Sl w va 3 n (ints xs)) : Calls Try.prog 70 #[.agg #[.int .i64 N, vg], .agg #[.int .i64 Q, va]] w (Post No w fun v _ => v = .bool (fitOk N es m Q xs n)) := by
  refine enter (n := 18) (args := [.agg #[.int .i64 N, vg], .agg #[.int .i64 Q, va]]) Try.func70 rfl rfl (St.empty _ _) ?_
  refine Run.seq ?_
  refine Run.region ?_
  refine Run.step rfl (OpStep.box (us := [.int .i64 N, vg]) rfl fun b1 => ?_)
  refine Run.step rfl (OpStep.box (us := [.int .i64 Q, va]) rfl fun b2 => ?_)
  refine Run.q (v := .bool false) rfl (OpQ.y (OpY.pure rfl)) ?_
  refine Run.done ?_
  refine Run.seq ?_
  refine Run.region ?_
  refine Run.q (v := .agg #[.int .i64 N, vg]) rfl (OpQ.y (OpY.loadN (cs := [.int .i64 N, vg]) Tagg_35 rfl (Cells.blk (.tail _ (List.Mem.head _)) ⟨rfl, rfl, trivial⟩))) ?_
  refine Run.q (v := .bool (cgOk N es m)) rfl (OpQ.call (vs := [.agg #[.int .i64 N, vg]]) (caps := []) Tcall_86 rfl rfl (fun w hs => IsValidCouplingGraph_spec (hs.sl hg))) ?_
  rcases Bool.eq_false_or_eq_true (cgOk N es m) with h7 | h7
  · refine Run.q (v := .bool true) rfl (OpQ.y (OpY.moveB rfl h7)) ?_
    have p7 := h7; try simp only [bs] at p7
    refine Run.q (v := .agg #[.int .i64 Q, va]) rfl (OpQ.y (OpY.loadN (cs := [.int .i64 Q, va]) Tagg_39 rfl (Cells.blk (.head _) ⟨rfl, rfl, trivial⟩))) ?_
    refine Run.q (v := .bool (circOk Q xs n)) rfl (OpQ.call (vs := [.agg #[.int .i64 Q, va]]) (caps := []) Tcall_87 rfl rfl (fun w hs => IsValidCircuit_spec (hs.sl ha))) ?_
    refine Run.q (v := .bool (circOk Q xs n)) rfl (OpQ.y (OpY.pure rfl)) ?_
    rcases Bool.eq_false_or_eq_true (circOk Q xs n) with h11 | h11
    · refine Run.q (v := .bool true) rfl (OpQ.y (OpY.moveB rfl h11)) ?_
      have p11 := h11; try simp only [bs] at p11
      refine Run.q (v := .pointer (some ⟨b2, 0, none⟩)) rfl (OpQ.y (OpY.fieldAddr Tfo_39_0 rfl rfl)) ?_
      refine Run.q (v := .int .i64 Q) rfl (OpQ.y (OpY.load1 Tone_3 rfl (Cells.blk (.head _) ⟨rfl, trivial⟩))) ?_
      refine Run.q (v := .pointer (some ⟨b1, 0, none⟩)) rfl (OpQ.y (OpY.fieldAddr Tfo_35_0 rfl rfl)) ?_
      refine Run.q (v := .int .i64 N) rfl (OpQ.y (OpY.load1 Tone_3 rfl (Cells.blk (.tail _ (List.Mem.head _)) ⟨rfl, trivial⟩))) ?_
      refine Run.q (v := .bool (decide (Q ≤ N))) rfl (OpQ.y (OpY.pure rfl)) ?_
      refine Run.q (v := .bool (decide (Q ≤ N))) rfl (OpQ.y (OpY.pure rfl)) ?_
      refine Run.q (v := .bool (decide (Q ≤ N))) rfl (OpQ.y (OpY.pure rfl)) ?_
      refine Run.done ?_
      refine Run.ret ?_
      refine ⟨.bool (decide (Q ≤ N)), [], Out.one rfl rfl, (Some'.weak (.nil _)), ?_⟩
      show _ = _; simp_all [fitOk]
    · refine Run.q (v := .bool false) rfl (OpQ.y (OpY.moveB rfl h11)) ?_
      have p11 := h11; try simp only [bs] at p11
      refine Run.pass rfl ?_
      refine Run.pass rfl ?_
      refine Run.pass rfl ?_
      refine Run.pass rfl ?_
      refine Run.pass rfl ?_
      refine Run.q (v := .bool false) rfl (OpQ.y (OpY.pure rfl)) ?_
      refine Run.q (v := .bool false) rfl (OpQ.y (OpY.pure rfl)) ?_
      refine Run.done ?_
      refine Run.ret ?_
      refine ⟨.bool false, [], Out.one rfl rfl, (Some'.weak (.nil _)), ?_⟩
      show _ = _; simp_all [fitOk]
  · refine Run.q (v := .bool false) rfl (OpQ.y (OpY.moveB rfl h7)) ?_
    have p7 := h7; try simp only [bs] at p7
    refine Run.pass rfl ?_
    refine Run.pass rfl ?_
    refine Run.q (v := .bool false) rfl (OpQ.y (OpY.pure rfl)) ?_
    refine Run.q (v := .bool false) rfl (OpQ.y (OpY.pure rfl)) ?_
    refine Run.pass rfl ?_
    refine Run.pass rfl ?_
    refine Run.pass rfl ?_
    refine Run.pass rfl ?_
    refine Run.pass rfl ?_
    refine Run.q (v := .bool false) rfl (OpQ.y (OpY.pure rfl)) ?_
    refine Run.q (v := .bool false) rfl (OpQ.y (OpY.pure rfl)) ?_
    refine Run.done ?_
    refine Run.ret ?_
    refine ⟨.bool false, [], Out.one rfl rfl, (Some'.weak (.nil _)), ?_⟩
    show _ = _; simp_all [fitOk]

set_option maxHeartbeats 1000000 in
set_option maxRecDepth 20000 in
theorem l23Fits_spec {N Q : Int} {vg va : Value} {m n : Nat} {es xs : List Int} {w : World} (hN : In64 N) (hw : ∀ x ∈ es, In64 x) (hg : Sl w vg 2 m (ints es)) (ha : Sl w va 3 n (ints xs)) : Calls Try.prog 60 #[.agg #[.int .i64 N, vg], .agg #[.int .i64 Q, va]] w (Post No w fun v _ => v = .bool (fitOk N es m Q xs n)) := by
  refine enter (n := 18) (args := [.agg #[.int .i64 N, vg], .agg #[.int .i64 Q, va]]) Try.func60 rfl rfl (St.empty _ _) ?_
  refine Run.seq ?_
  refine Run.region ?_
  refine Run.step rfl (OpStep.box (us := [.int .i64 N, vg]) rfl fun b1 => ?_)
  refine Run.step rfl (OpStep.box (us := [.int .i64 Q, va]) rfl fun b2 => ?_)
  refine Run.q (v := .bool false) rfl (OpQ.y (OpY.pure rfl)) ?_
  refine Run.done ?_
  refine Run.seq ?_
  refine Run.region ?_
  refine Run.q (v := .agg #[.int .i64 N, vg]) rfl (OpQ.y (OpY.loadN (cs := [.int .i64 N, vg]) Tagg_35 rfl (Cells.blk (.tail _ (List.Mem.head _)) ⟨rfl, rfl, trivial⟩))) ?_
  refine Run.q (v := .bool (cgOk N es m)) rfl (OpQ.call (vs := [.agg #[.int .i64 N, vg]]) (caps := []) Tcall_80 rfl rfl (fun w hs => l22Valid_spec hN (hs.sl hg) hw)) ?_
  rcases Bool.eq_false_or_eq_true (cgOk N es m) with h7 | h7
  · refine Run.q (v := .bool true) rfl (OpQ.y (OpY.moveB rfl h7)) ?_
    have p7 := h7; try simp only [bs] at p7
    refine Run.q (v := .agg #[.int .i64 Q, va]) rfl (OpQ.y (OpY.loadN (cs := [.int .i64 Q, va]) Tagg_39 rfl (Cells.blk (.head _) ⟨rfl, rfl, trivial⟩))) ?_
    refine Run.q (v := .bool (circOk Q xs n)) rfl (OpQ.call (vs := [.agg #[.int .i64 Q, va]]) (caps := []) Tcall_81 rfl rfl (fun w hs => l4Good_spec (hs.sl ha))) ?_
    refine Run.q (v := .bool (circOk Q xs n)) rfl (OpQ.y (OpY.pure rfl)) ?_
    rcases Bool.eq_false_or_eq_true (circOk Q xs n) with h11 | h11
    · refine Run.q (v := .bool true) rfl (OpQ.y (OpY.moveB rfl h11)) ?_
      have p11 := h11; try simp only [bs] at p11
      refine Run.q (v := .pointer (some ⟨b2, 0, none⟩)) rfl (OpQ.y (OpY.fieldAddr Tfo_39_0 rfl rfl)) ?_
      refine Run.q (v := .int .i64 Q) rfl (OpQ.y (OpY.load1 Tone_3 rfl (Cells.blk (.head _) ⟨rfl, trivial⟩))) ?_
      refine Run.q (v := .pointer (some ⟨b1, 0, none⟩)) rfl (OpQ.y (OpY.fieldAddr Tfo_35_0 rfl rfl)) ?_
      refine Run.q (v := .int .i64 N) rfl (OpQ.y (OpY.load1 Tone_3 rfl (Cells.blk (.tail _ (List.Mem.head _)) ⟨rfl, trivial⟩))) ?_
      refine Run.q (v := .bool (decide (Q ≤ N))) rfl (OpQ.y (OpY.pure rfl)) ?_
      refine Run.q (v := .bool (decide (Q ≤ N))) rfl (OpQ.y (OpY.pure rfl)) ?_
      refine Run.q (v := .bool (decide (Q ≤ N))) rfl (OpQ.y (OpY.pure rfl)) ?_
      refine Run.done ?_
      refine Run.ret ?_
      refine ⟨.bool (decide (Q ≤ N)), [], Out.one rfl rfl, (Some'.weak (.nil _)), ?_⟩
      show _ = _; simp_all [fitOk]
    · refine Run.q (v := .bool false) rfl (OpQ.y (OpY.moveB rfl h11)) ?_
      have p11 := h11; try simp only [bs] at p11
      refine Run.pass rfl ?_
      refine Run.pass rfl ?_
      refine Run.pass rfl ?_
      refine Run.pass rfl ?_
      refine Run.pass rfl ?_
      refine Run.q (v := .bool false) rfl (OpQ.y (OpY.pure rfl)) ?_
      refine Run.q (v := .bool false) rfl (OpQ.y (OpY.pure rfl)) ?_
      refine Run.done ?_
      refine Run.ret ?_
      refine ⟨.bool false, [], Out.one rfl rfl, (Some'.weak (.nil _)), ?_⟩
      show _ = _; simp_all [fitOk]
  · refine Run.q (v := .bool false) rfl (OpQ.y (OpY.moveB rfl h7)) ?_
    have p7 := h7; try simp only [bs] at p7
    refine Run.pass rfl ?_
    refine Run.pass rfl ?_
    refine Run.q (v := .bool false) rfl (OpQ.y (OpY.pure rfl)) ?_
    refine Run.q (v := .bool false) rfl (OpQ.y (OpY.pure rfl)) ?_
    refine Run.pass rfl ?_
    refine Run.pass rfl ?_
    refine Run.pass rfl ?_
    refine Run.pass rfl ?_
    refine Run.pass rfl ?_
    refine Run.q (v := .bool false) rfl (OpQ.y (OpY.pure rfl)) ?_
    refine Run.q (v := .bool false) rfl (OpQ.y (OpY.pure rfl)) ?_
    refine Run.done ?_
    refine Run.ret ?_
    refine ⟨.bool false, [], Out.one rfl rfl, (Some'.weak (.nil _)), ?_⟩
    show _ = _; simp_all [fitOk]

end Go.Proofs.Ytekikmdjldincaa
