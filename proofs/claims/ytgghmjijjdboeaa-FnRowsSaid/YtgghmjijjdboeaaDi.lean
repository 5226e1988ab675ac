/- Walks: the diameter of a coupling graph. -/
import Derived.Test.YtgghmjijjdboeaaDs
import Derived.Test.YtgghmjijjdboeaaLy
import Derived.Test.YtgghmjijjdboeaaProg
set_option linter.unusedSimpArgs false
set_option linter.unusedVariables false
namespace Go.Proofs.Ytgghmjijjdboeaa
open Go Go.RowKit
namespace DiT
theorem Tagg_25 : aggOf Try.prog 25 = some 2 := by kernel_rfl
theorem Tcall_14 : callable Try.prog 14 = true := by kernel_rfl
theorem Tcall_36 : callable Try.prog 36 = true := by kernel_rfl
theorem Tcall_42 : callable Try.prog 42 = true := by kernel_rfl
theorem Tcall_43 : callable Try.prog 43 = true := by kernel_rfl
theorem Tcall_44 : callable Try.prog 44 = true := by kernel_rfl
theorem Tcall_50 : callable Try.prog 50 = true := by kernel_rfl
theorem Tcall_51 : callable Try.prog 51 = true := by kernel_rfl
theorem Tfo_25_0 : fieldOff Try.prog 25 0 = some 0 := by kernel_rfl
theorem Tone_3 : oneOf Try.prog 3 = true := by kernel_rfl
theorem Tsl_34 : sliceOf Try.prog 34 = some (3, 1, 8, [.int .i64 0]) := by kernel_rfl
end DiT
open DiT

/-- The least of the first m + 1 numbers. -/
def lmn (xs : List Int) : Nat → Int
  | 0 => ix xs 0
  | m + 1 => min (lmn xs m) (ix xs (m + 1))
def negO (o : List Int) (n : Nat) : Bool := anyI (fun v => decide (ix o v < 0)) n
theorem lmn_neg (xs : List Int) : ∀ m, decide (lmn xs m < 0) = negO xs (m + 1)
  | 0 => by show decide (ix xs 0 < 0) = (false || decide (ix xs 0 < 0)); rw [Bool.false_or]
  | m + 1 => by
    have ih := lmn_neg xs m
    rw [negO, anyI, ← negO, ← ih, lmn, ← Bool.decide_or, decide_eq_decide]; omega
def mxV (o : List Int) (a : Int) : Nat → Int
  | 0 => a
  | j + 1 => max (mxV o a j) (ix o j)
theorem mxV_lmx (o : List Int) (a : Int) : ∀ m, mxV o a (m + 1) = max a (lmx o m)
  | 0 => rfl
  | m + 1 => by rw [mxV, mxV_lmx o a m, lmx]; omega
def mxA (D : Nat → List Int) (n : Nat) : Nat → Int
  | 0 => 0
  | k + 1 => mxV (D k) (mxA D n k) n
def diOk (N : Int) (xs : List Int) (n : Nat) (D : Nat → List Int) : Bool := cgOk N xs n && !anyI (fun s => negO (D s) N.toNat) N.toNat
noncomputable def diV (N : Int) (xs : List Int) (n : Nat) (D : Nat → List Int) : Int := if diOk N xs n D then mxA D N.toNat N.toNat else 0

set_option maxHeartbeats 1000000 in
set_option maxRecDepth 20000 in
theorem MinInt_spec {va : Value} {n : Nat} {xs : List Int} {w : World} (h0 : 0 < n) (ha : Sl w va 1 n (ints xs)) : Calls Try.prog 43 #[va] w (Post No w fun v _ => v = .int .i64 (lmn xs (n - 1))) := by
  have hxl := ha.len
  have hn := ha.le
  obtain ⟨A, c, rfl, _, _⟩ := ha.form0
  refine enter (n := 25) (args := [.slice A n c]) Try.func43 rfl rfl (St.empty _ _) ?_
  refine Run.seq ?_
  refine Run.region ?_
  refine Run.q (v := .int .i64 0) rfl (OpQ.y (OpY.pure rfl)) ?_
  refine Run.done ?_
  refine Run.seq ?_
  refine Run.seq ?_
  refine Run.region ?_
  refine Run.q (v := .slice A n c) rfl (OpQ.y (OpY.pure rfl)) ?_
  refine Run.q (v := .int .i64 (((n : Nat) : Int))) rfl (OpQ.y (OpY.len Tsl_34 rfl)) ?_
  refine Run.q (v := .bool (decide ((((n : Nat) : Int)) < 1))) rfl (OpQ.y (OpY.pure rfl)) ?_
  refine Run.done ?_
  refine Run.cond (b := decide ((((n : Nat) : Int)) < 1)) rfl (fun h7 => ?_) (fun h7 => ?_)
  · exact absurd h7 (by simp; omega) --DONE
  · have p7 := h7; try simp only [decide_eq_true_eq, decide_eq_false_iff_not, beq_iff_eq, bne_iff_ne, beq_eq_false_iff_ne, ne_eq, gt_iff_lt, ge_iff_le, Int.not_lt, Int.not_le, bne_eq_false_iff_eq, Bool.not_eq_true', Bool.not_eq_false', Bool.and_eq_true, Bool.and_eq_false_iff, Bool.or_eq_true, Bool.or_eq_false_iff, Decidable.not_not, List.cons.injEq, and_true] at p7
    obtain ⟨b, o, rfl⟩ := ha.opn (by omega)
    refine Run.skip ?_
    refine Run.seq ?_
    refine Run.region ?_
    refine Run.q (v := .slice (some ⟨b, o, none⟩) n c) rfl (OpQ.y (OpY.pure rfl)) ?_
    refine Run.q (v := .pointer (some ⟨b, o, none⟩)) rfl (OpQ.y (OpY.index (kk := 0) Tsl_34 rfl rfl (by omega) (by omega) (by first | rfl | omega))) ?_
    refine Run.q (v := .int .i64 (ix xs (0))) rfl (OpQ.y (OpY.load1 Tone_3 rfl (Cells.arg (k := 0) ha rfl (by omega) (pre1 (by omega))))) ?_
    refine Run.q (v := .int .i64 (ix xs (0))) rfl (OpQ.y (OpY.pure rfl)) ?_
    refine Run.done ?_
    refine Run.seq ?_
    refine Run.seq ?_
    refine Run.region ?_
    refine Run.q (v := .int .i64 1) rfl (OpQ.y (OpY.pure rfl)) ?_
    refine Run.done ?_
    refine Run.block ?_
    refine Run.loop (ι := Nat) [3, 4, 12, 13, 14, 15, 16, 17, 18, 19, 20, 21, 22, 23] (fun m => [(3, .int .i64 (lmn xs m)), (4, .int .i64 ((m : Int) + 1))]) (fun m => []) (fun m => m + 1 ≤ n) (fun m => n - m) 0 ?_ ?_ ?_ ?_
    · omega
    · exact ⟨rfl, rfl, trivial⟩
    · exact (Some'.weak (.nil _))
    · rintro m fr hinv
      show Run _ _ (over _ _ [(3, .int .i64 (lmn xs m)), (4, .int .i64 ((m : Int) + 1))] fr) []
      try dsimp only at hinv
      refine Run.seq ?_
      refine Run.seq ?_
      refine Run.region ?_
      refine Run.q (v := .int .i64 ((m : Int) + 1)) rfl (OpQ.y (OpY.pure rfl)) ?_
      refine Run.q (v := .slice (some ⟨b, o, none⟩) n c) rfl (OpQ.y (OpY.pure rfl)) ?_
      refine Run.q (v := .int .i64 (((n : Nat) : Int))) rfl (OpQ.y (OpY.len Tsl_34 rfl)) ?_
      refine Run.q (v := .bool (decide (((m : Int) + 1) < (((n : Nat) : Int))))) rfl (OpQ.y (OpY.pure rfl)) ?_
      refine Run.done ?_
      refine Run.cond (b := decide (((m : Int) + 1) < (((n : Nat) : Int)))) rfl (fun h15 => ?_) (fun h15 => ?_)
      · have p15 := h15; try simp only [decide_eq_true_eq, decide_eq_false_iff_not, beq_iff_eq, bne_iff_ne, beq_eq_false_iff_ne, ne_eq, gt_iff_lt, ge_iff_le, Int.not_lt, Int.not_le, bne_eq_false_iff_eq, Bool.not_eq_true', Bool.not_eq_false', Bool.and_eq_true, Bool.and_eq_false_iff, Bool.or_eq_true, Bool.or_eq_false_iff, Decidable.not_not, List.cons.injEq, and_true] at p15
        refine Run.skip ?_
        refine Run.seq ?_
        refine Run.block ?_
        refine Run.region ?_
        refine Run.q (v := .int .i64 (lmn xs m)) rfl (OpQ.y (OpY.pure rfl)) ?_
        refine Run.q (v := .slice (some ⟨b, o, none⟩) n c) rfl (OpQ.y (OpY.pure rfl)) ?_
        refine Run.q (v := .int .i64 ((m : Int) + 1)) rfl (OpQ.y (OpY.pure rfl)) ?_
        refine Run.q (v := .pointer (some ⟨b, o + m + 1, none⟩)) rfl (OpQ.y (OpY.index (kk := m + 1) Tsl_34 rfl rfl (by omega) (by omega) (by first | rfl | omega))) ?_
        refine Run.q (v := .int .i64 (ix xs (m + 1))) rfl (OpQ.y (OpY.load1 Tone_3 rfl (Cells.arg (k := m + 1) ha rfl (by omega) (pre1 (by omega))))) ?_
        refine Run.q (v := .int .i64 (min (lmn xs m) (ix xs (m + 1)))) rfl (OpQ.y (OpY.min rfl rfl)) ?_
        refine Run.q (v := .int .i64 (min (lmn xs m) (ix xs (m + 1)))) rfl (OpQ.y (OpY.pure rfl)) ?_
        refine Run.done ?_
        refine Run.blockEnd ?_
        refine Run.region ?_
        refine Run.q (v := .int .i64 ((m : Int) + 1)) rfl (OpQ.y (OpY.pure rfl)) ?_
        refine Run.q (v := .int .i64 (((m : Int) + 1) + 1)) rfl (OpQ.y (OpY.add rfl rfl rfl (by omega) (by omega))) ?_
        refine Run.q (v := .int .i64 (((m : Int) + 1) + 1)) rfl (OpQ.y (OpY.pure rfl)) ?_
        refine Run.done ?_
        refine Run.goal ⟨(by repeat (first | exact Same.refl _ _ | refine Same.put rfl ?_ | refine Same.over rfl rfl ?_)), m + 1, ?_, ?_, ?_, ?_⟩
        · omega
        · omega
        · exact ⟨(by first | rfl | (congr 1; omega) | simp), (by show Value.int _ _ = Value.int _ _; congr 1 <;> omega), trivial⟩
        · exact (Some'.weak (.nil _))
      · have p15 := h15; try simp only [decide_eq_true_eq, decide_eq_false_iff_not, beq_iff_eq, bne_iff_ne, beq_eq_false_iff_ne, ne_eq, gt_iff_lt, ge_iff_le, Int.not_lt, Int.not_le, bne_eq_false_iff_eq, Bool.not_eq_true', Bool.not_eq_false', Bool.and_eq_true, Bool.and_eq_false_iff, Bool.or_eq_true, Bool.or_eq_false_iff, Decidable.not_not, List.cons.injEq, and_true] at p15
        have hmn : m = n - 1 := by omega
        refine Run.exit rfl ?_
        refine Run.seq ?_
        refine Run.region ?_
        refine Run.q (v := .int .i64 (lmn xs m)) rfl (OpQ.y (OpY.pure rfl)) ?_
        refine Run.q (v := .int .i64 (lmn xs m)) rfl (OpQ.y (OpY.pure rfl)) ?_
        refine Run.done ?_
        refine Run.ret ?_
        refine ⟨.int .i64 (lmn xs m), [], Out.one rfl rfl, (Some'.weak (.nil _)), ?_⟩
        show _ = _; rw [hmn]

set_option maxHeartbeats 1000000 in
set_option maxRecDepth 20000 in
theorem DiameterOf_spec {N : Int} {va : Value} {n : Nat} {xs : List Int} {w : World} (ha : Sl w va 2 n (ints xs)) : Calls Try.prog 13 #[.agg #[.int .i64 N, va]] w (Post No w fun v _ => v = .tuple #[.int .i64 (diV N xs n (distL xs n N.toNat)), .bool (diOk N xs n (distL xs n N.toNat))]) := by
  refine enter (n := 27) (args := [.agg #[.int .i64 N, va]]) Try.func13 rfl rfl (St.empty _ _) ?_
  refine Run.seq ?_
  refine Run.region ?_
  refine Run.step rfl (OpStep.box (us := [.int .i64 N, va]) rfl fun b1 => ?_)
  refine Run.q (v := .int .i64 0) rfl (OpQ.y (OpY.pure rfl)) ?_
  refine Run.q (v := .bool false) rfl (OpQ.y (OpY.pure rfl)) ?_
  refine Run.done ?_
  refine Run.seq ?_
  refine Run.seq ?_
  refine Run.region ?_
  refine Run.q (v := .agg #[.int .i64 N, va]) rfl (OpQ.y (OpY.loadN (cs := [.int .i64 N, va]) Tagg_25 rfl (Cells.blk (.head _) ⟨rfl, rfl, trivial⟩))) ?_
  refine Run.q (v := .bool (cgOk N xs n)) rfl (OpQ.call (vs := [.agg #[.int .i64 N, va]]) (caps := []) Tcall_14 rfl rfl (fun w hs => IsValidCouplingGraph_spec (hs.sl ha))) ?_
  refine Run.q (v := .bool (!(cgOk N xs n))) rfl (OpQ.y (OpY.pure rfl)) ?_
  refine Run.done ?_
  refine Run.cond (b := !(cgOk N xs n)) rfl (fun h9 => ?_) (fun h9 => ?_)
  · have p9 := h9; try simp only [decide_eq_true_eq, decide_eq_false_iff_not, beq_iff_eq, bne_iff_ne, beq_eq_false_iff_ne, ne_eq, gt_iff_lt, ge_iff_le, Int.not_lt, Int.not_le, bne_eq_false_iff_eq, Bool.not_eq_true', Bool.not_eq_false', Bool.and_eq_true, Bool.and_eq_false_iff, Bool.or_eq_true, Bool.or_eq_false_iff, Decidable.not_not, List.cons.injEq, and_true] at p9
    have hbad0 : cgOk N xs n = false := by simpa using p9
    refine Run.seq ?_
    refine Run.region ?_
    refine Run.q (v := .int .i64 0) rfl (OpQ.y (OpY.pure rfl)) ?_
    refine Run.q (v := .bool false) rfl (OpQ.y (OpY.pure rfl)) ?_
    refine Run.done ?_
    refine Run.ret ?_
    refine ⟨.tuple #[.int .i64 0, .bool false], [], Out.two rfl rfl rfl, (Some'.weak (.nil _)), ?_⟩
    show _ = _
    have hok : diOk N xs n (distL xs n N.toNat) = false := by first | (rw [diOk, hbad0]; rfl) | (rw [diOk, hcg, anyI_true (p := fun s => negO (distL xs n N.toNat s) N.toNat) hk hneg]; rfl)
    rw [diV, hok]; rfl
  · have p9 := h9; try simp only [decide_eq_true_eq, decide_eq_false_iff_not, beq_iff_eq, bne_iff_ne, beq_eq_false_iff_ne, ne_eq, gt_iff_lt, ge_iff_le, Int.not_lt, Int.not_le, bne_eq_false_iff_eq, Bool.not_eq_true', Bool.not_eq_false', Bool.and_eq_true, Bool.and_eq_false_iff, Bool.or_eq_true, Bool.or_eq_false_iff, Decidable.not_not, List.cons.injEq, and_true] at p9
    have hcg : cgOk N xs n = true := by simpa using p9
    have hcN := cgOk_N hcg
    refine Run.skip ?_
    refine Run.seq ?_
    refine Run.region ?_
    refine Run.q (v := .int .i64 0) rfl (OpQ.y (OpY.pure rfl)) ?_
    refine Run.done ?_
    refine Run.seq ?_
    refine Run.seq ?_
    refine Run.region ?_
    refine Run.q (v := .pointer (some ⟨b1, 0, none⟩)) rfl (OpQ.y (OpY.fieldAddr Tfo_25_0 rfl rfl)) ?_
    refine Run.q (v := .int .i64 N) rfl (OpQ.y (OpY.load1 Tone_3 rfl (Cells.blk (.head _) ⟨rfl, trivial⟩))) ?_
    refine Run.q (v := .int .i64 0) rfl (OpQ.y (OpY.pure rfl)) ?_
    refine Run.done ?_
    refine Run.block ?_
    refine Run.loop (ι := Nat) [2, 3, 4, 5, 6, 12, 13, 14, 15, 16, 17, 18, 19, 20, 21, 22, 23, 24, 25] (fun k => [(4, .int .i64 (mxA (distL xs n N.toNat) N.toNat k)), (12, .int .i64 (((k : Nat) : Int)))]) (fun k => [.blk b1 25 [.int .i64 N, va]]) (fun k => k ≤ N.toNat ∧ ∀ i, i < k → negO (distL xs n N.toNat i) N.toNat = false) (fun k => N.toNat - k) 0 ?_ ?_ ?_ ?_
    · exact ⟨Nat.zero_le _, fun i hi => absurd hi (by omega)⟩
    · exact ⟨rfl, rfl, trivial⟩
    · exact (Some'.weak (.take (.nil _)))
    · rintro k fr hinv
      show Run _ _ (over _ _ [(4, .int .i64 (mxA (distL xs n N.toNat) N.toNat k)), (12, .int .i64 (((k : Nat) : Int)))] fr) [.blk b1 25 [.int .i64 N, va]]
      try dsimp only at hinv
      refine Run.seq ?_
      refine Run.region ?_
      refine Run.q (v := .bool (decide ((((k : Nat) : Int)) < N))) rfl (OpQ.y (OpY.pure rfl)) ?_
      refine Run.done ?_
      refine Run.seq ?_
      refine Run.cond (b := decide ((((k : Nat) : Int)) < N)) rfl (fun h13 => ?_) (fun h13 => ?_)
      · have p13 := h13; try simp only [decide_eq_true_eq, decide_eq_false_iff_not, beq_iff_eq, bne_iff_ne, beq_eq_false_iff_ne, ne_eq, gt_iff_lt, ge_iff_le, Int.not_lt, Int.not_le, bne_eq_false_iff_eq, Bool.not_eq_true', Bool.not_eq_false', Bool.and_eq_true, Bool.and_eq_false_iff, Bool.or_eq_true, Bool.or_eq_false_iff, Decidable.not_not, List.cons.injEq, and_true] at p13
        have hk : k < N.toNat := by omega
        have e1 : N.toNat - 1 + 1 = N.toNat := by omega
        refine Run.skip ?_
        refine Run.seq ?_
        refine Run.block ?_
        refine Run.seq ?_
        refine Run.region ?_
        refine Run.q (v := .int .i64 (((k : Nat) : Int))) rfl (OpQ.y (OpY.pure rfl)) ?_
        refine Run.q (v := .int .i64 (((k : Nat) : Int))) rfl (OpQ.y (OpY.pure rfl)) ?_
        refine Run.done ?_
        refine Run.seq ?_
        refine Run.region ?_
        refine Run.q (v := .agg #[.int .i64 N, va]) rfl (OpQ.y (OpY.loadN (cs := [.int .i64 N, va]) Tagg_25 rfl (Cells.blk (.head _) ⟨rfl, rfl, trivial⟩))) ?_
        refine Run.q (v := .int .i64 (((k : Nat) : Int))) rfl (OpQ.y (OpY.pure rfl)) ?_
        refine Run.step rfl (OpStep.call (vs := [.agg #[.int .i64 N, va], .int .i64 (((k : Nat) : Int))]) (caps := []) Tcall_42 rfl rfl (fun w hs => distances_spec hcN ⟨by omega, by omega⟩ (cgOk_edges hcg) (hs.sl ha)) ?_)
        rintro u _ ⟨hd, rfl⟩
        show Run _ _ (putF _ _ _ u) [.own u 3 1 (N.toNat) (ints (distL xs n N.toNat k)), .blk b1 25 [.int .i64 N, va]]
        refine Run.q (v := u) rfl (OpQ.y (OpY.pure rfl)) ?_
        refine Run.done ?_
        refine Run.seq ?_
        refine Run.seq ?_
        refine Run.region ?_
        refine Run.q (v := u) rfl (OpQ.y (OpY.pure rfl)) ?_
        refine Run.q (v := .int .i64 (lmn (distL xs n N.toNat k) (N.toNat - 1))) rfl (OpQ.call (vs := [u]) (caps := []) Tcall_43 rfl rfl (fun w hs => MinInt_spec (by omega) (hs.slOwn (.head _)))) ?_
        refine Run.q (v := .bool (decide ((lmn (distL xs n N.toNat k) (N.toNat - 1)) < 0))) rfl (OpQ.y (OpY.pure rfl)) ?_
        refine Run.done ?_
        refine Run.cond (b := decide ((lmn (distL xs n N.toNat k) (N.toNat - 1)) < 0)) rfl (fun h20 => ?_) (fun h20 => ?_)
        · have p20 := h20; try simp only [decide_eq_true_eq, decide_eq_false_iff_not, beq_iff_eq, bne_iff_ne, beq_eq_false_iff_ne, ne_eq, gt_iff_lt, ge_iff_le, Int.not_lt, Int.not_le, bne_eq_false_iff_eq, Bool.not_eq_true', Bool.not_eq_false', Bool.and_eq_true, Bool.and_eq_false_iff, Bool.or_eq_true, Bool.or_eq_false_iff, Decidable.not_not, List.cons.injEq, and_true] at p20
          have hneg : negO (distL xs n N.toNat k) N.toNat = true := by have h := lmn_neg (distL xs n N.toNat k) (N.toNat - 1); rw [e1] at h; rw [← h]; exact h20
          refine Run.seq ?_
          refine Run.region ?_
          refine Run.q (v := .int .i64 0) rfl (OpQ.y (OpY.pure rfl)) ?_
          refine Run.q (v := .bool false) rfl (OpQ.y (OpY.pure rfl)) ?_
          refine Run.done ?_
          refine Run.ret ?_
          refine ⟨.tuple #[.int .i64 0, .bool false], [], Out.two rfl rfl rfl, (Some'.weak (.nil _)), ?_⟩
          show _ = _
          have hok : diOk N xs n (distL xs n N.toNat) = false := by first | (rw [diOk, hbad0]; rfl) | (rw [diOk, hcg, anyI_true (p := fun s => negO (distL xs n N.toNat s) N.toNat) hk hneg]; rfl)
          rw [diV, hok]; rfl
        · have p20 := h20; try simp only [decide_eq_true_eq, decide_eq_false_iff_not, beq_iff_eq, bne_iff_ne, beq_eq_false_iff_ne, ne_eq, gt_iff_lt, ge_iff_le, Int.not_lt, Int.not_le, bne_eq_false_iff_eq, Bool.not_eq_true', Bool.not_eq_false', Bool.and_eq_true, Bool.and_eq_false_iff, Bool.or_eq_true, Bool.or_eq_false_iff, Decidable.not_not, List.cons.injEq, and_true] at p20
          have hneg : negO (distL xs n N.toNat k) N.toNat = false := by have h := lmn_neg (distL xs n N.toNat k) (N.toNat - 1); rw [e1] at h; rw [← h]; exact h20
          refine Run.skip ?_
          refine Run.region ?_
          refine Run.q (v := .int .i64 (mxA (distL xs n N.toNat) N.toNat k)) rfl (OpQ.y (OpY.pure rfl)) ?_
          refine Run.q (v := u) rfl (OpQ.y (OpY.pure rfl)) ?_
          refine Run.q (v := .int .i64 (lmx (distL xs n N.toNat k) (N.toNat - 1))) rfl (OpQ.call (vs := [u]) (caps := []) Tcall_44 rfl rfl (fun w hs => MaxInt_spec (by omega) (hs.slOwn (.head _)))) ?_
          refine Run.q (v := .int .i64 (max (mxA (distL xs n N.toNat) N.toNat k) (lmx (distL xs n N.toNat k) (N.toNat - 1)))) rfl (OpQ.y (OpY.max rfl rfl)) ?_
          refine Run.q (v := .int .i64 (max (mxA (distL xs n N.toNat) N.toNat k) (lmx (distL xs n N.toNat k) (N.toNat - 1)))) rfl (OpQ.y (OpY.pure rfl)) ?_
          refine Run.done ?_
          refine Run.blockEnd ?_
          refine Run.region ?_
          refine Run.q (v := .int .i64 ((((k : Nat) : Int)) + 1)) rfl (OpQ.y (OpY.add rfl rfl rfl (by omega) (by omega))) ?_
          refine Run.q (v := .int .i64 ((((k : Nat) : Int)) + 1)) rfl (OpQ.y (OpY.pure rfl)) ?_
          refine Run.done ?_
          refine Run.goal ⟨(by repeat (first | exact Same.refl _ _ | refine Same.put rfl ?_ | refine Same.over rfl rfl ?_)), k + 1, ?_, ?_, ?_, ?_⟩
          · refine ⟨by omega, fun i hi => ?_⟩
            rcases Nat.lt_succ_iff_lt_or_eq.1 hi with h | h
            · exact hinv.2 i h
            · rw [h]; exact hneg
          · omega
          · exact ⟨(by show Value.int _ _ = Value.int _ _; rw [mxA, ← mxV_lmx, e1]), (by first | rfl | (congr 1; omega) | simp), trivial⟩
          · exact (Some'.weak (.skip (.take (.nil _))))
      · have p13 := h13; try simp only [decide_eq_true_eq, decide_eq_false_iff_not, beq_iff_eq, bne_iff_ne, beq_eq_false_iff_ne, ne_eq, gt_iff_lt, ge_iff_le, Int.not_lt, Int.not_le, bne_eq_false_iff_eq, Bool.not_eq_true', Bool.not_eq_false', Bool.and_eq_true, Bool.and_eq_false_iff, Bool.or_eq_true, Bool.or_eq_false_iff, Decidable.not_not, List.cons.injEq, and_true] at p13
        have hkn : k = N.toNat := by omega
        refine Run.exit rfl ?_
        refine Run.seq ?_
        refine Run.region ?_
        refine Run.q (v := .int .i64 (mxA (distL xs n N.toNat) N.toNat k)) rfl (OpQ.y (OpY.pure rfl)) ?_
        refine Run.q (v := .int .i64 (mxA (distL xs n N.toNat) N.toNat k)) rfl (OpQ.y (OpY.pure rfl)) ?_
        refine Run.q (v := .bool true) rfl (OpQ.y (OpY.pure rfl)) ?_
        refine Run.done ?_
        refine Run.ret ?_
        refine ⟨.tuple #[.int .i64 (mxA (distL xs n N.toNat) N.toNat k), .bool true], [], Out.two rfl rfl rfl, (Some'.weak (.nil _)), ?_⟩
        show _ = _
        have hall : anyI (fun s => negO (distL xs n N.toNat s) N.toNat) N.toNat = false := anyI_false fun i hi => hinv.2 i (by omega)
        have hok : diOk N xs n (distL xs n N.toNat) = true := by rw [diOk, hcg, hall]; rfl
        rw [diV, hok, if_pos rfl, hkn]

set_option maxHeartbeats 1000000 in
set_option maxRecDepth 20000 in
theorem sDiameterOf_spec {N : Int} {va : Value} {n : Nat} {xs : List Int} {w : World} (hN : In64 N) (hw : ∀ x ∈ xs, In64 x) (ha : Sl w va 2 n (ints xs)) : Calls Try.prog 20 #[.agg #[.int .i64 N, va]] w (Post No w fun v _ => v = .tuple #[.int .i64 (diV N xs n (distL xs n N.toNat)), .bool (diOk N xs n (distL xs n N.toNat))]) := by
  refine enter (n := 32) (args := [.agg #[.int .i64 N, va]]) Try.func20 rfl rfl (St.empty _ _) ?_
  refine Run.seq ?_
  refine Run.region ?_
  refine Run.step rfl (OpStep.box (us := [.int .i64 N, va]) rfl fun b1 => ?_)
  refine Run.q (v := .int .i64 0) rfl (OpQ.y (OpY.pure rfl)) ?_
  refine Run.q (v := .bool false) rfl (OpQ.y (OpY.pure rfl)) ?_
  refine Run.done ?_
  refine Run.seq ?_
  refine Run.seq ?_
  refine Run.region ?_
  refine Run.q (v := .agg #[.int .i64 N, va]) rfl (OpQ.y (OpY.loadN (cs := [.int .i64 N, va]) Tagg_25 rfl (Cells.blk (.head _) ⟨rfl, rfl, trivial⟩))) ?_
  refine Run.q (v := .bool (cgOk N xs n)) rfl (OpQ.call (vs := [.agg #[.int .i64 N, va]]) (caps := []) Tcall_36 rfl rfl (fun w hs => l22Valid_spec hN (hs.sl ha) hw)) ?_
  refine Run.q (v := .bool (!(cgOk N xs n))) rfl (OpQ.y (OpY.pure rfl)) ?_
  refine Run.done ?_
  refine Run.cond (b := !(cgOk N xs n)) rfl (fun h10 => ?_) (fun h10 => ?_)
  · have p10 := h10; try simp only [decide_eq_true_eq, decide_eq_false_iff_not, beq_iff_eq, bne_iff_ne, beq_eq_false_iff_ne, ne_eq, gt_iff_lt, ge_iff_le, Int.not_lt, Int.not_le, bne_eq_false_iff_eq, Bool.not_eq_true', Bool.not_eq_false', Bool.and_eq_true, Bool.and_eq_false_iff, Bool.or_eq_true, Bool.or_eq_false_iff, Decidable.not_not, List.cons.injEq, and_true] at p10
    have hbad0 : cgOk N xs n = false := by simpa using p10
    refine Run.seq ?_
    refine Run.region ?_
    refine Run.q (v := .int .i64 0) rfl (OpQ.y (OpY.pure rfl)) ?_
    refine Run.q (v := .bool false) rfl (OpQ.y (OpY.pure rfl)) ?_
    refine Run.done ?_
    refine Run.ret ?_
    refine ⟨.tuple #[.int .i64 0, .bool false], [], Out.two rfl rfl rfl, (Some'.weak (.nil _)), ?_⟩
    show _ = _
    have hok : diOk N xs n (distL xs n N.toNat) = false := by first | (rw [diOk, hbad0]; rfl) | (rw [diOk, hcg, anyI_true (p := fun s => negO (distL xs n N.toNat s) N.toNat) hk hneg]; rfl)
    rw [diV, hok]; rfl
  · have p10 := h10; try simp only [decide_eq_true_eq, decide_eq_false_iff_not, beq_iff_eq, bne_iff_ne, beq_eq_false_iff_ne, ne_eq, gt_iff_lt, ge_iff_le, Int.not_lt, Int.not_le, bne_eq_false_iff_eq, Bool.not_eq_true', Bool.not_eq_false', Bool.and_eq_true, Bool.and_eq_false_iff, Bool.or_eq_true, Bool.or_eq_false_iff, Decidable.not_not, List.cons.injEq, and_true] at p10
    have hcg : cgOk N xs n = true := by simpa using p10
    have hcN := cgOk_N hcg
    refine Run.skip ?_
    refine Run.seq ?_
    refine Run.region ?_
    refine Run.q (v := .int .i64 0) rfl (OpQ.y (OpY.pure rfl)) ?_
    refine Run.done ?_
    refine Run.seq ?_
    refine Run.seq ?_
    refine Run.region ?_
    refine Run.q (v := .int .i64 0) rfl (OpQ.y (OpY.pure rfl)) ?_
    refine Run.done ?_
    refine Run.block ?_
    refine Run.loop (ι := Nat) [2, 3, 4, 5, 7, 11, 12, 13, 14, 15, 16, 17, 18, 19, 20, 21, 22, 23, 24, 25, 26, 27, 28, 29, 30] (fun k => [(4, .int .i64 (mxA (distL xs n N.toNat) N.toNat k)), (5, .int .i64 (((k : Nat) : Int)))]) (fun k => [.blk b1 25 [.int .i64 N, va]]) (fun k => k ≤ N.toNat ∧ ∀ i, i < k → negO (distL xs n N.toNat i) N.toNat = false) (fun k => N.toNat - k) 0 ?_ ?_ ?_ ?_
    · exact ⟨Nat.zero_le _, fun i hi => absurd hi (by omega)⟩
    · exact ⟨rfl, rfl, trivial⟩
    · exact (Some'.weak (.take (.nil _)))
    · rintro k fr hinv
      show Run _ _ (over _ _ [(4, .int .i64 (mxA (distL xs n N.toNat) N.toNat k)), (5, .int .i64 (((k : Nat) : Int)))] fr) [.blk b1 25 [.int .i64 N, va]]
      try dsimp only at hinv
      have hinv0 := hinv
      refine Run.seq ?_
      refine Run.seq ?_
      refine Run.region ?_
      refine Run.q (v := .int .i64 (((k : Nat) : Int))) rfl (OpQ.y (OpY.pure rfl)) ?_
      refine Run.q (v := .pointer (some ⟨b1, 0, none⟩)) rfl (OpQ.y (OpY.fieldAddr Tfo_25_0 rfl rfl)) ?_
      refine Run.q (v := .int .i64 N) rfl (OpQ.y (OpY.load1 Tone_3 rfl (Cells.blk (.head _) ⟨rfl, trivial⟩))) ?_
      refine Run.q (v := .bool (decide ((((k : Nat) : Int)) < N))) rfl (OpQ.y (OpY.pure rfl)) ?_
      refine Run.done ?_
      refine Run.cond (b := decide ((((k : Nat) : Int)) < N)) rfl (fun h14 => ?_) (fun h14 => ?_)
      · have p14 := h14; try simp only [decide_eq_true_eq, decide_eq_false_iff_not, beq_iff_eq, bne_iff_ne, beq_eq_false_iff_ne, ne_eq, gt_iff_lt, ge_iff_le, Int.not_lt, Int.not_le, bne_eq_false_iff_eq, Bool.not_eq_true', Bool.not_eq_false', Bool.and_eq_true, Bool.and_eq_false_iff, Bool.or_eq_true, Bool.or_eq_false_iff, Decidable.not_not, List.cons.injEq, and_true] at p14
        have hk : k < N.toNat := by omega
        refine Run.skip ?_
        refine Run.seq ?_
        refine Run.block ?_
        refine Run.seq ?_
        refine Run.region ?_
        refine Run.q (v := .agg #[.int .i64 N, va]) rfl (OpQ.y (OpY.loadN (cs := [.int .i64 N, va]) Tagg_25 rfl (Cells.blk (.head _) ⟨rfl, rfl, trivial⟩))) ?_
        refine Run.q (v := .int .i64 (((k : Nat) : Int))) rfl (OpQ.y (OpY.pure rfl)) ?_
        refine Run.step rfl (OpStep.call (vs := [.agg #[.int .i64 N, va], .int .i64 (((k : Nat) : Int))]) (caps := []) Tcall_50 rfl rfl (fun w hs => l22Far_spec hcN ⟨by omega, by omega⟩ (cgOk_edges hcg) (hs.sl ha)) ?_)
        rintro u _ ⟨hd, rfl⟩
        show Run _ _ (putF _ _ _ u) [.own u 3 1 (N.toNat) (ints (distL xs n N.toNat k)), .blk b1 25 [.int .i64 N, va]]
        refine Run.formOwn (.head _) (fun A_u1 c_u1 hv hcapc_u1 hmaxc_u1 => ?_) (fun _ _ _ => ⟨nofun, nofun, nofun⟩)
        subst hv
        refine Run.q (v := .int .i64 (((N.toNat : Nat) : Int))) rfl (OpQ.y (OpY.len Tsl_34 rfl)) ?_
        refine Run.q (v := .int .i64 0) rfl (OpQ.y (OpY.pure rfl)) ?_
        refine Run.done ?_
        refine Run.block ?_
        refine Run.loop (ι := Nat) [2, 3, 4, 7, 21, 22, 23, 24, 25, 26, 27, 28, 29, 30] (fun m => [(4, .int .i64 (mxV (distL xs n N.toNat k) (mxA (distL xs n N.toNat) N.toNat k) m)), (21, .int .i64 (((m : Nat) : Int)))]) (fun m => [.own (.slice A_u1 (N.toNat) c_u1) 3 1 (N.toNat) (ints (distL xs n N.toNat k)), .blk b1 25 [.int .i64 N, va]]) (fun m => m ≤ N.toNat ∧ (∀ i, i < m → decide (ix (distL xs n N.toNat k) i < 0) = false)) (fun m => N.toNat - m) 0 ?_ ?_ ?_ ?_
        · exact ⟨Nat.zero_le _, by first | trivial | (intro i hi; omega)⟩
        · exact ⟨rfl, rfl, trivial⟩
        · exact (Some'.weak (.take (.take (.nil _))))
        · rintro m fr hinv
          show Run _ _ (over _ _ [(4, .int .i64 (mxV (distL xs n N.toNat k) (mxA (distL xs n N.toNat) N.toNat k) m)), (21, .int .i64 (((m : Nat) : Int)))] fr) [.own (.slice A_u1 (N.toNat) c_u1) 3 1 (N.toNat) (ints (distL xs n N.toNat k)), .blk b1 25 [.int .i64 N, va]]
          try dsimp only at hinv
          refine Run.seq ?_
          refine Run.region ?_
          refine Run.q (v := .bool (decide ((((m : Nat) : Int)) < (((N.toNat : Nat) : Int))))) rfl (OpQ.y (OpY.pure rfl)) ?_
          refine Run.done ?_
          refine Run.seq ?_
          refine Run.cond (b := decide ((((m : Nat) : Int)) < (((N.toNat : Nat) : Int)))) rfl (fun h22 => ?_) (fun h22 => ?_)
          · have p22 := h22; try simp only [decide_eq_true_eq, decide_eq_false_iff_not, beq_iff_eq, bne_iff_ne, beq_eq_false_iff_ne, ne_eq, gt_iff_lt, ge_iff_le, Int.not_lt, Int.not_le, bne_eq_false_iff_eq, Bool.not_eq_true', Bool.not_eq_false', Bool.and_eq_true, Bool.and_eq_false_iff, Bool.or_eq_true, Bool.or_eq_false_iff, Decidable.not_not, List.cons.injEq, and_true] at p22
            have hltm : m < N.toNat := by omega
            refine Run.openOwn (.head _) (by omega) (fun g2 cg2 hvg2 hcapg2 _ => ?_) (fun _ _ _ => ⟨nofun, nofun, nofun⟩)
            injection hvg2 with hAg2 _ hcg2; subst hAg2; subst hcg2
            have hdl : (distL xs n N.toNat k).length = N.toNat := hd.len
            refine Run.skip ?_
            refine Run.seq ?_
            refine Run.block ?_
            refine Run.seq ?_
            refine Run.region ?_
            refine Run.q (v := .pointer (some ⟨g2, m, none⟩)) rfl (OpQ.y (OpY.index (kk := m) Tsl_34 rfl rfl (by omega) (by omega) (by first | rfl | omega))) ?_
            refine Run.q (v := .int .i64 (ix (distL xs n N.toNat k) (m))) rfl (OpQ.y (OpY.load1 Tone_3 rfl (Cells.own0 (.head _) (pre1 (by omega))))) ?_
            refine Run.q (v := .int .i64 (ix (distL xs n N.toNat k) (m))) rfl (OpQ.y (OpY.pure rfl)) ?_
            refine Run.done ?_
            refine Run.seq ?_
            refine Run.seq ?_
            refine Run.region ?_
            refine Run.q (v := .int .i64 (ix (distL xs n N.toNat k) (m))) rfl (OpQ.y (OpY.pure rfl)) ?_
            refine Run.q (v := .bool (decide ((ix (distL xs n N.toNat k) (m)) < 0))) rfl (OpQ.y (OpY.pure rfl)) ?_
            refine Run.done ?_
            refine Run.cond (b := decide ((ix (distL xs n N.toNat k) (m)) < 0)) rfl (fun h26 => ?_) (fun h26 => ?_)
            · have p26 := h26; try simp only [decide_eq_true_eq, decide_eq_false_iff_not, beq_iff_eq, bne_iff_ne, beq_eq_false_iff_ne, ne_eq, gt_iff_lt, ge_iff_le, Int.not_lt, Int.not_le, bne_eq_false_iff_eq, Bool.not_eq_true', Bool.not_eq_false', Bool.and_eq_true, Bool.and_eq_false_iff, Bool.or_eq_true, Bool.or_eq_false_iff, Decidable.not_not, List.cons.injEq, and_true] at p26
              have hneg : negO (distL xs n N.toNat k) N.toNat = true := anyI_true hltm h26
              refine Run.seq ?_
              refine Run.region ?_
              refine Run.q (v := .int .i64 0) rfl (OpQ.y (OpY.pure rfl)) ?_
              refine Run.q (v := .bool false) rfl (OpQ.y (OpY.pure rfl)) ?_
              refine Run.done ?_
              refine Run.ret ?_
              refine ⟨.tuple #[.int .i64 0, .bool false], [], Out.two rfl rfl rfl, (Some'.weak (.nil _)), ?_⟩
              show _ = _
              have hok : diOk N xs n (distL xs n N.toNat) = false := by first | (rw [diOk, hbad0]; rfl) | (rw [diOk, hcg, anyI_true (p := fun s => negO (distL xs n N.toNat s) N.toNat) hk hneg]; rfl)
              rw [diV, hok]; rfl
            · have p26 := h26; try simp only [decide_eq_true_eq, decide_eq_false_iff_not, beq_iff_eq, bne_iff_ne, beq_eq_false_iff_ne, ne_eq, gt_iff_lt, ge_iff_le, Int.not_lt, Int.not_le, bne_eq_false_iff_eq, Bool.not_eq_true', Bool.not_eq_false', Bool.and_eq_true, Bool.and_eq_false_iff, Bool.or_eq_true, Bool.or_eq_false_iff, Decidable.not_not, List.cons.injEq, and_true] at p26
              refine Run.skip ?_
              refine Run.region ?_
              refine Run.q (v := .int .i64 (mxV (distL xs n N.toNat k) (mxA (distL xs n N.toNat) N.toNat k) m)) rfl (OpQ.y (OpY.pure rfl)) ?_
              refine Run.q (v := .int .i64 (ix (distL xs n N.toNat k) (m))) rfl (OpQ.y (OpY.pure rfl)) ?_
              refine Run.q (v := .int .i64 (max (mxV (distL xs n N.toNat k) (mxA (distL xs n N.toNat) N.toNat k) m) (ix (distL xs n N.toNat k) (m)))) rfl (OpQ.call (vs := [.int .i64 (mxV (distL xs n N.toNat k) (mxA (distL xs n N.toNat) N.toNat k) m), .int .i64 (ix (distL xs n N.toNat k) (m))]) (caps := []) Tcall_51 rfl rfl (fun w hs => l1Most_spec _ _ w)) ?_
              refine Run.q (v := .int .i64 (max (mxV (distL xs n N.toNat k) (mxA (distL xs n N.toNat) N.toNat k) m) (ix (distL xs n N.toNat k) (m)))) rfl (OpQ.y (OpY.pure rfl)) ?_
              refine Run.done ?_
              refine Run.blockEnd ?_
              refine Run.region ?_
              refine Run.q (v := .int .i64 ((((m : Nat) : Int)) + 1)) rfl (OpQ.y (OpY.add rfl rfl rfl (by omega) (by omega))) ?_
              refine Run.q (v := .int .i64 ((((m : Nat) : Int)) + 1)) rfl (OpQ.y (OpY.pure rfl)) ?_
              refine Run.done ?_
              refine Run.goal ⟨(by repeat (first | exact Same.refl _ _ | refine Same.put rfl ?_ | refine Same.over rfl rfl ?_)), m + 1, ?_, ?_, ?_, ?_⟩
              · refine ⟨by omega, ?_⟩
                intro i hi
                rcases Nat.lt_succ_iff_lt_or_eq.1 hi with h | h
                · exact hinv.2 i h
                · rw [h]; exact h26
              · omega
              · exact ⟨(by first | rfl | (congr 1; omega) | simp), (by first | rfl | (congr 1; omega) | simp), trivial⟩
              · exact (Some'.weak (.takeEq (by first | rfl | simp) (.take (.nil _))))
          · have p22 := h22; try simp only [decide_eq_true_eq, decide_eq_false_iff_not, beq_iff_eq, bne_iff_ne, beq_eq_false_iff_ne, ne_eq, gt_iff_lt, ge_iff_le, Int.not_lt, Int.not_le, bne_eq_false_iff_eq, Bool.not_eq_true', Bool.not_eq_false', Bool.and_eq_true, Bool.and_eq_false_iff, Bool.or_eq_true, Bool.or_eq_false_iff, Decidable.not_not, List.cons.injEq, and_true] at p22
            have hknm : m = N.toNat := by omega
            have hneg : negO (distL xs n N.toNat k) N.toNat = false := anyI_false fun i hi => hinv.2 i (by omega)
            refine Run.exit rfl ?_
            refine Run.blockEnd ?_
            refine Run.region ?_
            refine Run.q (v := .int .i64 (((k : Nat) : Int))) rfl (OpQ.y (OpY.pure rfl)) ?_
            refine Run.q (v := .int .i64 ((((k : Nat) : Int)) + 1)) rfl (OpQ.y (OpY.add rfl rfl rfl (by omega) (by omega))) ?_
            refine Run.q (v := .int .i64 ((((k : Nat) : Int)) + 1)) rfl (OpQ.y (OpY.pure rfl)) ?_
            refine Run.done ?_
            refine Run.goal ⟨(by repeat (first | exact Same.refl _ _ | refine Same.put rfl ?_ | refine Same.over rfl rfl ?_)), k + 1, ?_, ?_, ?_, ?_⟩
            · refine ⟨by omega, fun i hi => ?_⟩
              rcases Nat.lt_succ_iff_lt_or_eq.1 hi with h | h
              · exact hinv0.2 i h
              · rw [h]; exact hneg
            · omega
            · exact ⟨(by show Value.int _ _ = Value.int _ _; rw [mxA, ← hknm]), (by first | rfl | (congr 1; omega) | simp), trivial⟩
            · exact (Some'.weak (.skip (.take (.nil _))))
      · have p14 := h14; try simp only [decide_eq_true_eq, decide_eq_false_iff_not, beq_iff_eq, bne_iff_ne, beq_eq_false_iff_ne, ne_eq, gt_iff_lt, ge_iff_le, Int.not_lt, Int.not_le, bne_eq_false_iff_eq, Bool.not_eq_true', Bool.not_eq_false', Bool.and_eq_true, Bool.and_eq_false_iff, Bool.or_eq_true, Bool.or_eq_false_iff, Decidable.not_not, List.cons.injEq, and_true] at p14
        have hkn : k = N.toNat := by omega
        refine Run.exit rfl ?_
        refine Run.seq ?_
        refine Run.region ?_
        refine Run.q (v := .int .i64 (mxA (distL xs n N.toNat) N.toNat k)) rfl (OpQ.y (OpY.pure rfl)) ?_
        refine Run.q (v := .int .i64 (mxA (distL xs n N.toNat) N.toNat k)) rfl (OpQ.y (OpY.pure rfl)) ?_
        refine Run.q (v := .bool true) rfl (OpQ.y (OpY.pure rfl)) ?_
        refine Run.done ?_
        refine Run.ret ?_
        refine ⟨.tuple #[.int .i64 (mxA (distL xs n N.toNat) N.toNat k), .bool true], [], Out.two rfl rfl rfl, (Some'.weak (.nil _)), ?_⟩
        show _ = _
        have hall : anyI (fun s => negO (distL xs n N.toNat s) N.toNat) N.toNat = false := anyI_false fun i hi => hinv.2 i (by omega)
        have hok : diOk N xs n (distL xs n N.toNat) = true := by rw [diOk, hcg, hall]; rfl
        rw [diV, hok, if_pos rfl, hkn]

end Go.Proofs.Ytgghmjijjdboeaa
