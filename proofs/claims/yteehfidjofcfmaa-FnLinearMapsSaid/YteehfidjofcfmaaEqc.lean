/- Walks: circuits compared. -/
import Derived.Test.YteehfidjofcfmaaCi
import Derived.Test.YteehfidjofcfmaaW1
import Derived.Test.YteehfidjofcfmaaProg
set_option linter.unusedSimpArgs false
set_option linter.unusedVariables false
namespace Go.Proofs.Yteehfidjofcfmaa
open Go Go.RowKit
namespace EqcT
theorem Tagg_71 : aggOf Try.prog 71 = some 3 := by kernel_rfl
theorem Tcall_72 : callable Try.prog 72 = true := by kernel_rfl
theorem Tfo_38_0 : fieldOff Try.prog 38 0 = some 0 := by kernel_rfl
theorem Tfo_38_1 : fieldOff Try.prog 38 1 = some 1 := by kernel_rfl
theorem Tns_71_3 : numStruct Try.prog 71 3 = true := by kernel_rfl
theorem Tone_3 : oneOf Try.prog 3 = true := by kernel_rfl
theorem Tone_36 : oneOf Try.prog 36 = true := by kernel_rfl
theorem Tsl_36 : sliceOf Try.prog 36 = some (71, 3, 24, [.int .i64 0, .int .i64 0, .int .i64 0]) := by kernel_rfl
end EqcT
open EqcT

def eqG1 (xs ys : List Int) (i : Nat) : Bool := decide ([ix xs (i * 3), ix xs (i * 3 + 1), ix xs (i * 3 + 2)] = [ix ys (i * 3), ix ys (i * 3 + 1), ix ys (i * 3 + 2)])
/-- Two lists of gates are equal. -/
def eqGs (xs : List Int) (n : Nat) (ys : List Int) (m : Nat) : Bool := decide (n = m) && allI (eqG1 xs ys) n
theorem eqGs_ne {xs ys : List Int} {n m : Nat} (h : n ≠ m) : eqGs xs n ys m = false := by simp [eqGs, h]
theorem eqGs_eq {xs ys : List Int} {n m : Nat} (h : n = m) (ha : ∀ i, i < n → eqG1 xs ys i = true) : eqGs xs n ys m = true := by
  simp only [eqGs, Bool.and_eq_true, decide_eq_true_eq]; exact ⟨h, allI_iff.2 ha⟩
theorem eqGs_no {xs ys : List Int} {n m k : Nat} (hk : k < n) (h : eqG1 xs ys k = false) : eqGs xs n ys m = false := by
  cases hb : eqGs xs n ys m with
  | false => rfl
  | true =>
    simp only [eqGs, Bool.and_eq_true] at hb
    rw [allI_iff.1 hb.2 k hk] at h; cases h

set_option maxHeartbeats 1000000 in
set_option maxRecDepth 20000 in
theorem EqualGates_spec {va vb : Value} {n m : Nat} {xs ys : List Int} {w : World} (ha : Sl w va 3 n (ints xs)) (hb : Sl w vb 3 m (ints ys)) : Calls Try.prog 72 #[va, vb] w (Post No w fun v _ => v = .bool (eqGs xs n ys m)) := by
  have hal := ha.len
  have hbl := hb.len
  have han := ha.le
  have hbn := hb.le
  obtain ⟨A, c, rfl, _, _⟩ := ha.form0
  obtain ⟨Ab, cb, rfl, _, _⟩ := hb.form0
  refine enter (n := 26) (args := [.slice A n c, .slice Ab m cb]) Try.func72 rfl rfl (St.empty _ _) ?_
  refine Run.seq ?_
  refine Run.region ?_
  refine Run.q (v := .bool false) rfl (OpQ.y (OpY.pure rfl)) ?_
  refine Run.done ?_
  refine Run.seq ?_
  refine Run.seq ?_
  refine Run.region ?_
  refine Run.q (v := .slice A n c) rfl (OpQ.y (OpY.pure rfl)) ?_
  refine Run.q (v := .int .i64 (((n : Nat) : Int))) rfl (OpQ.y (OpY.len Tsl_36 rfl)) ?_
  refine Run.q (v := .slice Ab m cb) rfl (OpQ.y (OpY.pure rfl)) ?_
  refine Run.q (v := .int .i64 (((m : Nat) : Int))) rfl (OpQ.y (OpY.len Tsl_36 rfl)) ?_
  refine Run.q (v := .bool ((((n : Nat) : Int)) != (((m : Nat) : Int)))) rfl (OpQ.y (OpY.pure rfl)) ?_
  refine Run.done ?_
  refine Run.cond (b := (((n : Nat) : Int)) != (((m : Nat) : Int))) rfl (fun h10 => ?_) (fun h10 => ?_)
  · have p10 := h10; try simp only [bs] at p10
    have hres : eqGs xs n ys m = false := eqGs_ne (by omega)
    refine Run.seq ?_
    refine Run.region ?_
    refine Run.q (v := .bool false) rfl (OpQ.y (OpY.pure rfl)) ?_
    refine Run.done ?_
    refine Run.ret ?_
    refine ⟨.bool false, [], Out.one rfl rfl, (Some'.weak (.nil _)), ?_⟩
    show _ = _; rw [hres]
  · have p10 := h10; try simp only [bs] at p10
    have hnm : n = m := by omega
    refine Run.skip ?_
    refine Run.seq ?_
    refine Run.seq ?_
    refine Run.region ?_
    refine Run.q (v := .slice A n c) rfl (OpQ.y (OpY.pure rfl)) ?_
    refine Run.q (v := .int .i64 (((n : Nat) : Int))) rfl (OpQ.y (OpY.len Tsl_36 rfl)) ?_
    refine Run.q (v := .int .i64 0) rfl (OpQ.y (OpY.pure rfl)) ?_
    refine Run.done ?_
    refine Run.block ?_
    refine Run.loop (ι := Nat) [4, 5, 13, 14, 15, 16, 17, 18, 19, 20, 21, 22, 23, 24, 25] (fun k => [(13, .int .i64 (((k : Nat) : Int)))]) (fun k => []) (fun k => k ≤ n ∧ (∀ i, i < k → eqG1 xs ys i = true)) (fun k => n - k) 0 ?_ ?_ ?_ ?_
    · exact ⟨Nat.zero_le _, by first | trivial | (intro i hi; omega)⟩
    · exact ⟨rfl, trivial⟩
    · exact (Some'.weak (.nil _))
    · rintro k fr hinv
      show Run _ _ (over _ _ [(13, .int .i64 (((k : Nat) : Int)))] fr) []
      try dsimp only at hinv
      refine Run.seq ?_
      refine Run.region ?_
      refine Run.q (v := .bool (decide ((((k : Nat) : Int)) < (((n : Nat) : Int))))) rfl (OpQ.y (OpY.pure rfl)) ?_
      refine Run.done ?_
      refine Run.seq ?_
      refine Run.cond (b := decide ((((k : Nat) : Int)) < (((n : Nat) : Int)))) rfl (fun h14 => ?_) (fun h14 => ?_)
      · have p14 := h14; try simp only [bs] at p14
        have hltk : k < n := by omega
        obtain ⟨b, o, rfl⟩ := ha.opn (by omega)
        obtain ⟨bb, ob, rfl⟩ := hb.opn (by omega)
        refine Run.skip ?_
        refine Run.seq ?_
        refine Run.block ?_
        refine Run.seq ?_
        refine Run.region ?_
        refine Run.q (v := .int .i64 (((k : Nat) : Int))) rfl (OpQ.y (OpY.pure rfl)) ?_
        refine Run.q (v := .int .i64 (((k : Nat) : Int))) rfl (OpQ.y (OpY.pure rfl)) ?_
        refine Run.done ?_
        refine Run.seq ?_
        refine Run.draws (by kernel_rfl) (by kernel_rfl) ?_
        refine Lex.q (v := .slice (some ⟨b, o, none⟩) n c) rfl (OpQ.y (OpY.pure rfl)) ?_
        refine Lex.q (v := .int .i64 (((k : Nat) : Int))) rfl (OpQ.y (OpY.pure rfl)) ?_
        refine Lex.q (v := .pointer (some ⟨b, o + k * 3, none⟩)) rfl (OpQ.y (OpY.index (kk := k) Tsl_36 rfl rfl (by omega) (by omega) (by first | rfl | omega))) ?_
        refine Lex.q (v := .agg #[.int .i64 (ix xs (k * 3)), .int .i64 (ix xs (k * 3 + 1)), .int .i64 (ix xs (k * 3 + 2))]) rfl (OpQ.y (OpY.loadN (cs := [.int .i64 (ix xs (k * 3)), .int .i64 (ix xs (k * 3 + 1)), .int .i64 (ix xs (k * 3 + 2))]) Tagg_71 rfl (Cells.arg (k := k * 3) ha rfl (by omega) (pre3 (by omega))))) ?_
        refine Lex.q (v := .slice (some ⟨bb, ob, none⟩) m cb) rfl (OpQ.y (OpY.pure rfl)) ?_
        refine Lex.q (v := .int .i64 (((k : Nat) : Int))) rfl (OpQ.y (OpY.pure rfl)) ?_
        refine Lex.q (v := .pointer (some ⟨bb, ob + k * 3, none⟩)) rfl (OpQ.y (OpY.index (kk := k) Tsl_36 rfl rfl (by omega) (by omega) (by first | rfl | omega))) ?_
        refine Lex.q (v := .agg #[.int .i64 (ix ys (k * 3)), .int .i64 (ix ys (k * 3 + 1)), .int .i64 (ix ys (k * 3 + 2))]) rfl (OpQ.y (OpY.loadN (cs := [.int .i64 (ix ys (k * 3)), .int .i64 (ix ys (k * 3 + 1)), .int .i64 (ix ys (k * 3 + 2))]) Tagg_71 rfl (Cells.arg (k := k * 3) hb rfl (by omega) (pre3 (by omega))))) ?_
        refine Lex.q (v := .bool (!decide ([ix xs (k * 3), ix xs (k * 3 + 1), ix xs (k * 3 + 2)] = [ix ys (k * 3), ix ys (k * 3 + 1), ix ys (k * 3 + 2)]))) rfl (OpQ.y (OpY.neStruct (xs := [ix xs (k * 3), ix xs (k * 3 + 1), ix xs (k * 3 + 2)]) (ys := [ix ys (k * 3), ix ys (k * 3 + 1), ix ys (k * 3 + 2)]) Tns_71_3 rfl rfl rfl rfl)) ?_
        refine Lex.done ?_
        refine Run.cond (b := !decide ([ix xs (k * 3), ix xs (k * 3 + 1), ix xs (k * 3 + 2)] = [ix ys (k * 3), ix ys (k * 3 + 1), ix ys (k * 3 + 2)])) rfl (fun h24 => ?_) (fun h24 => ?_)
        · have p24 := h24; try simp only [bs] at p24
          refine Run.seq ?_
          have hres : eqGs xs n ys m = false := eqGs_no hltk (by rw [eqG1]; exact (Bool.not_eq_true' _).mp h24)
          refine Run.region ?_
          refine Run.q (v := .bool false) rfl (OpQ.y (OpY.pure rfl)) ?_
          refine Run.done ?_
          refine Run.ret ?_
          refine ⟨.bool false, [], Out.one rfl rfl, (Some'.weak (.nil _)), ?_⟩
          show _ = _; rw [hres]
        · have p24 := h24; try simp only [bs] at p24
          have hgood : eqG1 xs ys k = true := by rw [eqG1]; exact (Bool.not_eq_false' _).mp h24
          refine Run.skip ?_
          refine Run.blockEnd ?_
          refine Run.region ?_
          refine Run.q (v := .int .i64 ((((k : Nat) : Int)) + 1)) rfl (OpQ.y (OpY.add rfl rfl rfl (by omega) (by omega))) ?_
          refine Run.q (v := .int .i64 ((((k : Nat) : Int)) + 1)) rfl (OpQ.y (OpY.pure rfl)) ?_
          refine Run.done ?_
          refine Run.goal ⟨(by repeat (first | exact Same.refl _ _ | refine Same.put rfl ?_ | refine Same.over rfl rfl ?_)), k + 1, ?_, ?_, ?_, ?_⟩
          · refine ⟨by omega, ?_⟩
            intro i hi
            rcases Nat.lt_succ_iff_lt_or_eq.1 hi with h | h
            · exact hinv.2 i h
            · rw [h]; exact hgood
          · omega
          · exact ⟨(by first | rfl | (congr 1; omega) | simp), trivial⟩
          · exact (Some'.weak (.nil _))
      · have p14 := h14; try simp only [bs] at p14
        have hknk : k = n := by omega
        refine Run.exit rfl ?_
        refine Run.seq ?_
        have hres : eqGs xs n ys m = true := eqGs_eq hnm fun i hi => hinv.2 i (by omega)
        refine Run.region ?_
        refine Run.q (v := .bool true) rfl (OpQ.y (OpY.pure rfl)) ?_
        refine Run.done ?_
        refine Run.ret ?_
        refine ⟨.bool true, [], Out.one rfl rfl, (Some'.weak (.nil _)), ?_⟩
        show _ = _; rw [hres]

set_option maxHeartbeats 1000000 in
set_option maxRecDepth 20000 in
theorem EqualCircuits_spec {N M : Int} {va vb : Value} {n m : Nat} {xs ys : List Int} {w : World} (ha : Sl w va 3 n (ints xs)) (hb : Sl w vb 3 m (ints ys)) : Calls Try.prog 33 #[.agg #[.int .i64 N, va], .agg #[.int .i64 M, vb]] w (Post No w fun v _ => v = .bool ((N == M) && eqGs xs n ys m)) := by
  refine enter (n := 17) (args := [.agg #[.int .i64 N, va], .agg #[.int .i64 M, vb]]) Try.func33 rfl rfl (St.empty _ _) ?_
  refine Run.seq ?_
  refine Run.region ?_
  refine Run.step rfl (OpStep.box (us := [.int .i64 N, va]) rfl fun b1 => ?_)
  refine Run.step rfl (OpStep.box (us := [.int .i64 M, vb]) rfl fun b2 => ?_)
  refine Run.q (v := .bool false) rfl (OpQ.y (OpY.pure rfl)) ?_
  refine Run.done ?_
  refine Run.seq ?_
  refine Run.region ?_
  refine Run.q (v := .pointer (some ⟨b1, 0, none⟩)) rfl (OpQ.y (OpY.fieldAddr Tfo_38_0 rfl rfl)) ?_
  refine Run.q (v := .int .i64 N) rfl (OpQ.y (OpY.load1 Tone_3 rfl (Cells.blk (.tail _ (List.Mem.head _)) ⟨rfl, trivial⟩))) ?_
  refine Run.q (v := .pointer (some ⟨b2, 0, none⟩)) rfl (OpQ.y (OpY.fieldAddr Tfo_38_0 rfl rfl)) ?_
  refine Run.q (v := .int .i64 M) rfl (OpQ.y (OpY.load1 Tone_3 rfl (Cells.blk (.head _) ⟨rfl, trivial⟩))) ?_
  refine Run.q (v := .bool (N == M)) rfl (OpQ.y (OpY.pure rfl)) ?_
  rcases Bool.eq_false_or_eq_true (N == M) with h10 | h10
  · refine Run.q (v := .bool true) rfl (OpQ.y (OpY.moveB rfl h10)) ?_
    have p10 := h10; try simp only [bs] at p10
    refine Run.q (v := .pointer (some ⟨b1, 1, none⟩)) rfl (OpQ.y (OpY.fieldAddr Tfo_38_1 rfl rfl)) ?_
    refine Run.q (v := va) rfl (OpQ.y (OpY.load1 Tone_36 rfl (Cells.blk (.tail _ (List.Mem.head _)) ⟨rfl, trivial⟩))) ?_
    refine Run.q (v := .pointer (some ⟨b2, 1, none⟩)) rfl (OpQ.y (OpY.fieldAddr Tfo_38_1 rfl rfl)) ?_
    refine Run.q (v := vb) rfl (OpQ.y (OpY.load1 Tone_36 rfl (Cells.blk (.head _) ⟨rfl, trivial⟩))) ?_
    refine Run.q (v := .bool (eqGs xs n ys m)) rfl (OpQ.call (vs := [va, vb]) (caps := []) Tcall_72 rfl rfl (fun w hs => EqualGates_spec (hs.sl ha) (hs.sl hb))) ?_
    refine Run.q (v := .bool (eqGs xs n ys m)) rfl (OpQ.y (OpY.pure rfl)) ?_
    refine Run.q (v := .bool (eqGs xs n ys m)) rfl (OpQ.y (OpY.pure rfl)) ?_
    refine Run.done ?_
    refine Run.ret ?_
    refine ⟨.bool (eqGs xs n ys m), [], Out.one rfl rfl, (Some'.weak (.nil _)), ?_⟩
    show _ = _
    first | rw [h10, Bool.true_and] | rw [h10, Bool.false_and]
  · refine Run.q (v := .bool false) rfl (OpQ.y (OpY.moveB rfl h10)) ?_
    have p10 := h10; try simp only [bs] at p10
    refine Run.pass rfl ?_
    refine Run.pass rfl ?_
    refine Run.pass rfl ?_
    refine Run.pass rfl ?_
    refine Run.pass rfl ?_
    refine Run.q (v := .bool false) rfl (OpQ.y (OpY.pure rfl)) ?_
    refine Run.q (v := .bool false) rfl (OpQ.y (OpY.pure rfl)) ?_
    refine Run.done ?_
    refine Run.ret ?_
    refine ⟨.bool false, [], Out.one rfl rfl, (Some'.weak (.nil _)), ?_⟩
    show _ = _
    first | rw [h10, Bool.true_and] | rw [h10, Bool.false_and]

end Go.Proofs.Yteehfidjofcfmaa
