/- Walks: gates with a common qubit, TDepthOf of the program and of the reference. -/
import Derived.Test.YtgoaoifnckhdlaaDep
import Derived.Test.YtgoaoifnckhdlaaCg3
import Derived.Test.YtgoaoifnckhdlaaProg
set_option linter.unusedSimpArgs false
set_option linter.unusedVariables false
namespace Go.Proofs.Ytgoaoifnckhdlaa
open Go Go.RowKit
namespace TdT
theorem Tagg_73 : aggOf Try.prog 73 = some 2 := by kernel_rfl
theorem Tagg_94 : aggOf Try.prog 94 = some 3 := by kernel_rfl
theorem Tarr_115 : arrayOf Try.prog 115 = some (5, 1) := by kernel_rfl
theorem Tcall_112 : callable Try.prog 112 = true := by kernel_rfl
theorem Tcall_122 : callable Try.prog 122 = true := by kernel_rfl
theorem Tcall_85 : callable Try.prog 85 = true := by kernel_rfl
theorem Tcall_86 : callable Try.prog 86 = true := by kernel_rfl
theorem Tcall_87 : callable Try.prog 87 = true := by kernel_rfl
theorem Tcall_89 : callable Try.prog 89 = true := by kernel_rfl
theorem Tcall_90 : callable Try.prog 90 = true := by kernel_rfl
theorem Tcall_91 : callable Try.prog 91 = true := by kernel_rfl
theorem Tcall_92 : callable Try.prog 92 = true := by kernel_rfl
theorem Tfo_73_1 : fieldOff Try.prog 73 1 = some 1 := by kernel_rfl
theorem Tfo_94_0 : fieldOff Try.prog 94 0 = some 0 := by kernel_rfl
theorem Tone_22 : oneOf Try.prog 22 = true := by kernel_rfl
theorem Tone_3 : oneOf Try.prog 3 = true := by kernel_rfl
theorem Tsize_115 : (Try.prog.info? 115).map (·.size) = some 5 := by kernel_rfl
theorem Tsize_3 : (Try.prog.info? 3).map (·.size) = some 1 := by kernel_rfl
theorem Tsize_94 : (Try.prog.info? 94).map (·.size) = some 3 := by kernel_rfl
theorem Tsl_22 : sliceOf Try.prog 22 = some (94, 3, 24, [.int .i64 0, .int .i64 0, .int .i64 0]) := by kernel_rfl
theorem Tsl_44 : sliceOf Try.prog 44 = some (3, 1, 8, [.int .i64 0]) := by kernel_rfl
theorem Tzero_115 : zeroOf Try.prog 115 = some [.int .i64 0, .int .i64 0, .int .i64 0, .int .i64 0, .int .i64 0] := by kernel_rfl
theorem Tzero_94 : zeroOf Try.prog 94 = some [.int .i64 0, .int .i64 0, .int .i64 0] := by kernel_rfl
end TdT
open TdT

theorem hasI_contains (R : List Int) (x : Int) : hasI R x R.length = R.contains x := by
  rw [Bool.eq_iff_iff, hasI, anyI_iff]
  simp only [decide_eq_true_eq, List.contains_iff_mem]
  constructor
  · rintro ⟨i, h, rfl⟩; exact ix_mem h
  · intro h
    obtain ⟨i, hi, he⟩ := List.getElem_of_mem h
    exact ⟨i, hi, by simp [ix, List.getD, hi, he]⟩
theorem common_true {Q R : List Int} {i : Nat} (h : i < Q.length) (hr : R.contains (ix Q i) = true) : common Q R = true := List.any_eq_true.2 ⟨_, ix_mem h, hr⟩
theorem common_false {Q R : List Int} (h : ∀ i, i < Q.length → R.contains (ix Q i) = false) : common Q R = false := by
  cases hb : common Q R with
  | false => rfl
  | true =>
    obtain ⟨q, hq, hr⟩ := List.any_eq_true.1 hb
    obtain ⟨i, hi, he⟩ := List.getElem_of_mem hq
    have := h i hi
    simp only [ix, List.getD, List.getElem?_eq_getElem hi, Option.getD_some, he] at this
    rw [this] at hr; cases hr

set_option maxHeartbeats 1000000 in
set_option maxRecDepth 20000 in
theorem l24Common_spec (k a b k' a' b' : Int) (w : World) : Calls Try.prog 86 #[.agg #[.int .i64 k, .int .i64 a, .int .i64 b], .agg #[.int .i64 k', .int .i64 a', .int .i64 b']] w (Post No w fun v _ => v = .bool (common (qs k a b) (qs k' a' b'))) := by
  have hqle := qs_le k a b
  refine enter (n := 19) (args := [.agg #[.int .i64 k, .int .i64 a, .int .i64 b], .agg #[.int .i64 (k'), .int .i64 (a'), .int .i64 (b')]]) Try.func86 rfl rfl (St.empty _ _) ?_
  refine Run.seq ?_
  refine Run.region ?_
  refine Run.step rfl (OpStep.box (us := [.int .i64 k, .int .i64 a, .int .i64 b]) rfl fun b1 => ?_)
  refine Run.step rfl (OpStep.box (us := [.int .i64 (k'), .int .i64 (a'), .int .i64 (b')]) rfl fun b2 => ?_)
  refine Run.q (v := .bool false) rfl (OpQ.y (OpY.pure rfl)) ?_
  refine Run.done ?_
  refine Run.seq ?_
  refine Run.seq ?_
  refine Run.region ?_
  refine Run.q (v := .agg #[.int .i64 k, .int .i64 a, .int .i64 b]) rfl (OpQ.y (OpY.loadN (cs := [.int .i64 k, .int .i64 a, .int .i64 b]) Tagg_94 rfl (Cells.blk (.tail _ (List.Mem.head _)) ⟨rfl, rfl, rfl, trivial⟩))) ?_
  refine Run.step rfl (OpStep.call (vs := [.agg #[.int .i64 k, .int .i64 a, .int .i64 b]]) (caps := []) Tcall_122 rfl rfl (fun w hs => l23Qubits_spec _ _ _ w) ?_)
  rintro u1 _ rfl
  show Run _ _ (putF _ _ _ u1) [.own u1 3 1 ((qs k a b).length) (ints (qs k a b)), .blk b2 94 [.int .i64 (k'), .int .i64 (a'), .int .i64 (b')], .blk b1 94 [.int .i64 k, .int .i64 a, .int .i64 b]]
  refine Run.formOwn (.head _) (fun A_u11 c_u11 hv hcapc_u11 hmaxc_u11 => ?_) (fun _ _ _ => ⟨nofun, nofun, nofun⟩)
  subst hv
  refine Run.q (v := .int .i64 ((((qs k a b).length : Nat) : Int))) rfl (OpQ.y (OpY.len Tsl_44 rfl)) ?_
  refine Run.q (v := .int .i64 0) rfl (OpQ.y (OpY.pure rfl)) ?_
  refine Run.done ?_
  refine Run.block ?_
  refine Run.loop (ι := Nat) [4, 6, 10, 11, 12, 13, 14, 15, 16, 17, 18] (fun m => [(10, .int .i64 (((m : Nat) : Int)))]) (fun m => [.own (.slice A_u11 ((qs k a b).length) c_u11) 3 1 ((qs k a b).length) (ints (qs k a b)), .blk b2 94 [.int .i64 (k'), .int .i64 (a'), .int .i64 (b')], .blk b1 94 [.int .i64 k, .int .i64 a, .int .i64 b]]) (fun m => m ≤ (qs k a b).length ∧ (∀ i, i < m → (qs k' a' b').contains (ix (qs k a b) i) = false)) (fun m => (qs k a b).length - m) 0 ?_ ?_ ?_ ?_
  · exact ⟨Nat.zero_le _, by first | trivial | (intro i hi; omega)⟩
  · exact ⟨rfl, trivial⟩
  · exact (Some'.weak (.take (.take (.take (.nil _)))))
  · rintro m j hinv
    show Run _ _ (over _ _ [(10, .int .i64 (((m : Nat) : Int)))] j) [.own (.slice A_u11 ((qs k a b).length) c_u11) 3 1 ((qs k a b).length) (ints (qs k a b)), .blk b2 94 [.int .i64 (k'), .int .i64 (a'), .int .i64 (b')], .blk b1 94 [.int .i64 k, .int .i64 a, .int .i64 b]]
    try dsimp only at hinv
    refine Run.seq ?_
    refine Run.region ?_
    refine Run.q (v := .bool (decide ((((m : Nat) : Int)) < ((((qs k a b).length : Nat) : Int))))) rfl (OpQ.y (OpY.pure rfl)) ?_
    refine Run.done ?_
    refine Run.seq ?_
    refine Run.cond (b := decide ((((m : Nat) : Int)) < ((((qs k a b).length : Nat) : Int)))) rfl (fun h11 => ?_) (fun h11 => ?_)
    · have p11 := h11; try simp only [decide_eq_true_eq, decide_eq_false_iff_not, beq_iff_eq, bne_iff_ne, beq_eq_false_iff_ne, ne_eq, gt_iff_lt, ge_iff_le, Int.not_lt, Int.not_le, bne_eq_false_iff_eq, Bool.not_eq_true', Bool.not_eq_false', Bool.and_eq_true, Bool.and_eq_false_iff, Bool.or_eq_true, Bool.or_eq_false_iff, Decidable.not_not, List.cons.injEq, and_true] at p11
      have hltm : m < (qs k a b).length := by omega
      refine Run.openOwn (.head _) (by omega) (fun g1 cg1 hvg1 hcapg1 _ => ?_) (fun _ _ _ => ⟨nofun, nofun, nofun⟩)
      injection hvg1 with hAg1 _ hcg1; subst hAg1; subst hcg1
      refine Run.skip ?_
      refine Run.seq ?_
      refine Run.block ?_
      refine Run.seq ?_
      refine Run.region ?_
      refine Run.q (v := .pointer (some ⟨g1, m, none⟩)) rfl (OpQ.y (OpY.index (kk := m) Tsl_44 rfl rfl (by omega) (by omega) (by first | rfl | omega))) ?_
      refine Run.q (v := .int .i64 (ix (qs k a b) (m))) rfl (OpQ.y (OpY.load1 Tone_3 rfl (Cells.own0 (.head _) (pre1 (by omega))))) ?_
      refine Run.q (v := .int .i64 (ix (qs k a b) (m))) rfl (OpQ.y (OpY.pure rfl)) ?_
      refine Run.done ?_
      refine Run.seq ?_
      refine Run.region ?_
      refine Run.q (v := .agg #[.int .i64 (k'), .int .i64 (a'), .int .i64 (b')]) rfl (OpQ.y (OpY.loadN (cs := [.int .i64 (k'), .int .i64 (a'), .int .i64 (b')]) Tagg_94 rfl (Cells.blk (.tail _ (List.Mem.head _)) ⟨rfl, rfl, rfl, trivial⟩))) ?_
      refine Run.step rfl (OpStep.call (vs := [.agg #[.int .i64 (k'), .int .i64 (a'), .int .i64 (b')]]) (caps := []) Tcall_122 rfl rfl (fun w hs => l23Qubits_spec _ _ _ w) ?_)
      rintro u2 _ rfl
      show Run _ _ (putF _ _ _ u2) [.own u2 3 1 ((qs k' a' b').length) (ints (qs k' a' b')), .own (.slice (some ⟨g1, 0, none⟩) ((qs k a b).length) c_u11) 3 1 ((qs k a b).length) (ints (qs k a b)), .blk b2 94 [.int .i64 (k'), .int .i64 (a'), .int .i64 (b')], .blk b1 94 [.int .i64 k, .int .i64 a, .int .i64 b]]
      refine Run.q (v := .int .i64 (ix (qs k a b) (m))) rfl (OpQ.y (OpY.pure rfl)) ?_
      refine Run.q (v := .bool (hasI (qs k' a' b') (ix (qs k a b) (m)) (qs k' a' b').length)) rfl (OpQ.call (vs := [u2, .int .i64 (ix (qs k a b) (m))]) (caps := []) Tcall_112 rfl rfl (fun w hs => l1Has_spec (hs.slOwn (.head _)))) ?_
      refine Run.done ?_
      refine Run.cond (b := hasI (qs k' a' b') (ix (qs k a b) (m)) (qs k' a' b').length) rfl (fun h17 => ?_) (fun h17 => ?_)
      · have p17 := h17; try simp only [decide_eq_true_eq, decide_eq_false_iff_not, beq_iff_eq, bne_iff_ne, beq_eq_false_iff_ne, ne_eq, gt_iff_lt, ge_iff_le, Int.not_lt, Int.not_le, bne_eq_false_iff_eq, Bool.not_eq_true', Bool.not_eq_false', Bool.and_eq_true, Bool.and_eq_false_iff, Bool.or_eq_true, Bool.or_eq_false_iff, Decidable.not_not, List.cons.injEq, and_true] at p17
        refine Run.seq ?_
        have hres : common (qs k a b) (qs k' a' b') = true := common_true hltm (by rw [← hasI_contains]; exact h17)
        refine Run.region ?_
        refine Run.q (v := .bool true) rfl (OpQ.y (OpY.pure rfl)) ?_
        refine Run.done ?_
        refine Run.ret ?_
        refine ⟨.bool true, [], Out.one rfl rfl, (Some'.weak (.nil _)), ?_⟩
        show _ = _; rw [hres]
      · have p17 := h17; try simp only [decide_eq_true_eq, decide_eq_false_iff_not, beq_iff_eq, bne_iff_ne, beq_eq_false_iff_ne, ne_eq, gt_iff_lt, ge_iff_le, Int.not_lt, Int.not_le, bne_eq_false_iff_eq, Bool.not_eq_true', Bool.not_eq_false', Bool.and_eq_true, Bool.and_eq_false_iff, Bool.or_eq_true, Bool.or_eq_false_iff, Decidable.not_not, List.cons.injEq, and_true] at p17
        refine Run.skip ?_
        refine Run.blockEnd ?_
        have hgood : (qs k' a' b').contains (ix (qs k a b) m) = false := by rw [← hasI_contains]; exact h17
        refine Run.region ?_
        refine Run.q (v := .int .i64 ((((m : Nat) : Int)) + 1)) rfl (OpQ.y (OpY.add rfl rfl rfl (by omega) (by omega))) ?_
        refine Run.q (v := .int .i64 ((((m : Nat) : Int)) + 1)) rfl (OpQ.y (OpY.pure rfl)) ?_
        refine Run.done ?_
        refine Run.goal ⟨(by repeat (first | exact Same.refl _ _ | refine Same.put rfl ?_ | refine Same.over rfl rfl ?_)), m + 1, ?_, ?_, ?_, ?_⟩
        · refine ⟨by omega, ?_⟩
          intro i hi
          rcases Nat.lt_succ_iff_lt_or_eq.1 hi with h | h
          · exact hinv.2 i h
          · rw [h]; exact hgood
        · omega
        · exact ⟨(by first | rfl | (congr 1; omega) | simp), trivial⟩
        · exact (Some'.weak (.skip (.takeEq (by first | rfl | simp) (.take (.take (.nil _))))))
    · have p11 := h11; try simp only [decide_eq_true_eq, decide_eq_false_iff_not, beq_iff_eq, bne_iff_ne, beq_eq_false_iff_ne, ne_eq, gt_iff_lt, ge_iff_le, Int.not_lt, Int.not_le, bne_eq_false_iff_eq, Bool.not_eq_true', Bool.not_eq_false', Bool.and_eq_true, Bool.and_eq_false_iff, Bool.or_eq_true, Bool.or_eq_false_iff, Decidable.not_not, List.cons.injEq, and_true] at p11
      have hknm : m = (qs k a b).length := by omega
      have hres : common (qs k a b) (qs k' a' b') = false := common_false (by rw [← hknm]; exact hinv.2)
      refine Run.exit rfl ?_
      refine Run.seq ?_
      refine Run.region ?_
      refine Run.q (v := .bool false) rfl (OpQ.y (OpY.pure rfl)) ?_
      refine Run.done ?_
      refine Run.ret ?_
      refine ⟨.bool false, [], Out.one rfl rfl, (Some'.weak (.nil _)), ?_⟩
      show _ = _; rw [hres]

set_option maxHeartbeats 1000000 in
set_option maxRecDepth 20000 in
theorem TDepthOf_spec {N : Int} {va : Value} {n : Nat} {xs : List Int} {w : World} (ha : Sl w va 3 n (ints xs)) : Calls Try.prog 49 #[.agg #[.int .i64 N, va]] w (Post No w fun v _ => v = .tuple #[.int .i64 (if circOk N xs n then mxD incT xs n else 0), .bool (circOk N xs n)]) := by
  have hxl := ha.len
  have hn := ha.le
  obtain ⟨A, c, rfl, _, _⟩ := ha.form0
  have hi1 := incT_range
  refine enter (n := 59) (args := [.agg #[.int .i64 N, .slice A n c]]) Try.func49 rfl rfl (St.empty _ _) ?_
  refine Run.seq ?_
  refine Run.region ?_
  refine Run.step rfl (OpStep.box (us := [.int .i64 N, .slice A n c]) rfl fun b1 => ?_)
  refine Run.q (v := .int .i64 0) rfl (OpQ.y (OpY.pure rfl)) ?_
  refine Run.q (v := .bool false) rfl (OpQ.y (OpY.pure rfl)) ?_
  refine Run.done ?_
  refine Run.seq ?_
  refine Run.seq ?_
  refine Run.region ?_
  refine Run.q (v := .agg #[.int .i64 N, .slice A n c]) rfl (OpQ.y (OpY.loadN (cs := [.int .i64 N, .slice A n c]) Tagg_73 rfl (Cells.blk (.head _) ⟨rfl, rfl, trivial⟩))) ?_
  refine Run.q (v := .bool (circOk N xs n)) rfl (OpQ.call (vs := [.agg #[.int .i64 N, .slice A n c]]) (caps := []) Tcall_89 rfl rfl (fun w hs => IsValidCircuit_spec (hs.sl ha))) ?_
  refine Run.q (v := .bool (!(circOk N xs n))) rfl (OpQ.y (OpY.pure rfl)) ?_
  refine Run.done ?_
  refine Run.cond (b := !(circOk N xs n)) rfl (fun h15 => ?_) (fun h15 => ?_)
  · have p15 := h15; try simp only [decide_eq_true_eq, decide_eq_false_iff_not, beq_iff_eq, bne_iff_ne, beq_eq_false_iff_ne, ne_eq, gt_iff_lt, ge_iff_le, Int.not_lt, Int.not_le, bne_eq_false_iff_eq, Bool.not_eq_true', Bool.not_eq_false', Bool.and_eq_true, Bool.and_eq_false_iff, Bool.or_eq_true, Bool.or_eq_false_iff, Decidable.not_not, List.cons.injEq, and_true] at p15
    have hok : circOk N xs n = false := by simpa using p15
    refine Run.seq ?_
    refine Run.region ?_
    refine Run.q (v := .int .i64 0) rfl (OpQ.y (OpY.pure rfl)) ?_
    refine Run.q (v := .bool false) rfl (OpQ.y (OpY.pure rfl)) ?_
    refine Run.done ?_
    refine Run.ret ?_
    refine ⟨.tuple #[.int .i64 0, .bool false], [], Out.two rfl rfl rfl, (Some'.weak (.nil _)), ?_⟩
    show _ = _
    rw [hok]; first | rfl | (rw [if_neg (by decide)]) | (rw [if_pos rfl])
  · have p15 := h15; try simp only [decide_eq_true_eq, decide_eq_false_iff_not, beq_iff_eq, bne_iff_ne, beq_eq_false_iff_ne, ne_eq, gt_iff_lt, ge_iff_le, Int.not_lt, Int.not_le, bne_eq_false_iff_eq, Bool.not_eq_true', Bool.not_eq_false', Bool.and_eq_true, Bool.and_eq_false_iff, Bool.or_eq_true, Bool.or_eq_false_iff, Decidable.not_not, List.cons.injEq, and_true] at p15
    have hok : circOk N xs n = true := by simpa using p15
    have h400 := circOk_n hok
    refine Run.skip ?_
    refine Run.seq ?_
    refine Run.region ?_
    refine Run.q (v := .agg #[.int .i64 0, .int .i64 0, .int .i64 0, .int .i64 0, .int .i64 0]) rfl (OpQ.y (OpY.build (cs := [.int .i64 0, .int .i64 0, .int .i64 0, .int .i64 0, .int .i64 0]) (by kernel_rfl))) ?_
    refine Run.step rfl (OpStep.alloc (zs := [.int .i64 0, .int .i64 0, .int .i64 0, .int .i64 0, .int .i64 0]) Tzero_115 fun b2 => ?_)
    refine Run.step rfl (OpStep.storeAll (us := [.int .i64 0, .int .i64 0, .int .i64 0, .int .i64 0, .int .i64 0]) Tsize_115 rfl rfl rfl (.here _) rfl ?_)
    refine Run.q (v := .int .i64 0) rfl (OpQ.y (OpY.pure rfl)) ?_
    refine Run.done ?_
    refine Run.seq ?_
    refine Run.seq ?_
    refine Run.region ?_
    refine Run.q (v := .pointer (some ⟨b1, 1, none⟩)) rfl (OpQ.y (OpY.fieldAddr Tfo_73_1 rfl rfl)) ?_
    refine Run.q (v := .slice A n c) rfl (OpQ.y (OpY.load1 Tone_22 rfl (Cells.blk (.tail _ (List.Mem.head _)) ⟨rfl, trivial⟩))) ?_
    refine Run.q (v := .int .i64 (((n : Nat) : Int))) rfl (OpQ.y (OpY.len Tsl_22 rfl)) ?_
    refine Run.q (v := .int .i64 0) rfl (OpQ.y (OpY.pure rfl)) ?_
    refine Run.done ?_
    refine Run.block ?_
    refine Run.loop (ι := Nat) [5, 7, 8, 10, 12, 20, 21, 22, 23, 24, 25, 26, 27, 28, 29, 30, 31, 32, 33, 34, 35, 36, 37, 38, 39, 40, 41, 42, 43, 44, 45, 46, 47, 48, 49, 50, 51, 52, 53, 54, 55, 56, 57] (fun k => [(5, .int .i64 (mxD incT xs k)), (20, .int .i64 (((k : Nat) : Int)))]) (fun k => [.blk b2 115 (ints (bstL incT xs k)), .blk b1 73 [.int .i64 N, .slice A n c]]) (fun k => k ≤ n ∧ (True)) (fun k => n - k) 0 ?_ ?_ ?_ ?_
    · exact ⟨Nat.zero_le _, by first | trivial | (intro i hi; omega)⟩
    · exact ⟨rfl, rfl, trivial⟩
    · exact (Some'.weak (.takeEq (by first | rw [hB] | rfl) (.take (.nil _))))
    · rintro k j hinv
      show Run _ _ (over _ _ [(5, .int .i64 (mxD incT xs k)), (20, .int .i64 (((k : Nat) : Int)))] j) [.blk b2 115 (ints (bstL incT xs k)), .blk b1 73 [.int .i64 N, .slice A n c]]
      try dsimp only at hinv
      refine Run.seq ?_
      refine Run.region ?_
      refine Run.q (v := .bool (decide ((((k : Nat) : Int)) < (((n : Nat) : Int))))) rfl (OpQ.y (OpY.pure rfl)) ?_
      refine Run.done ?_
      refine Run.seq ?_
      refine Run.cond (b := decide ((((k : Nat) : Int)) < (((n : Nat) : Int)))) rfl (fun h21 => ?_) (fun h21 => ?_)
      · have p21 := h21; try simp only [decide_eq_true_eq, decide_eq_false_iff_not, beq_iff_eq, bne_iff_ne, beq_eq_false_iff_ne, ne_eq, gt_iff_lt, ge_iff_le, Int.not_lt, Int.not_le, bne_eq_false_iff_eq, Bool.not_eq_true', Bool.not_eq_false', Bool.and_eq_true, Bool.and_eq_false_iff, Bool.or_eq_true, Bool.or_eq_false_iff, Decidable.not_not, List.cons.injEq, and_true] at p21
        have hltk : k < n := by omega
        obtain ⟨b, o, rfl⟩ := ha.opn (by omega)
        have hgk := gate_gq hok hltk
        have hqle : (gq xs k).length ≤ 2 := qs_le _ _ _
        have hmr := mxD_range hi1 xs k
        have hbl := bst_le (fun k => (hi1 k).2) xs k
        have hdn := dep_nonneg (fun k => (hi1 k).1) xs k
        refine Run.skip ?_
        refine Run.seq ?_
        refine Run.block ?_
        refine Run.seq ?_
        refine Run.region ?_
        refine Run.q (v := .pointer (some ⟨b, o + k * 3, none⟩)) rfl (OpQ.y (OpY.index (kk := k) Tsl_22 rfl rfl (by omega) (by omega) (by first | rfl | omega))) ?_
        refine Run.q (v := .agg #[.int .i64 (ix xs (k * 3)), .int .i64 (ix xs (k * 3 + 1)), .int .i64 (ix xs (k * 3 + 2))]) rfl (OpQ.y (OpY.loadN (cs := [.int .i64 (ix xs (k * 3)), .int .i64 (ix xs (k * 3 + 1)), .int .i64 (ix xs (k * 3 + 2))]) Tagg_94 rfl (Cells.arg (k := k * 3) ha rfl (by omega) (pre3 (by omega))))) ?_
        refine Run.step rfl (OpStep.alloc (zs := [.int .i64 0, .int .i64 0, .int .i64 0]) Tzero_94 fun b3 => ?_)
        refine Run.step rfl (OpStep.storeAll (us := [.int .i64 (ix xs (k * 3)), .int .i64 (ix xs (k * 3 + 1)), .int .i64 (ix xs (k * 3 + 2))]) Tsize_94 rfl rfl rfl (.here _) rfl ?_)
        refine Run.done ?_
        refine Run.seq ?_
        refine Run.region ?_
        refine Run.q (v := .int .i64 0) rfl (OpQ.y (OpY.pure rfl)) ?_
        refine Run.done ?_
        refine Run.seq ?_
        refine Run.seq ?_
        refine Run.region ?_
        refine Run.q (v := .agg #[.int .i64 (ix xs (k * 3)), .int .i64 (ix xs (k * 3 + 1)), .int .i64 (ix xs (k * 3 + 2))]) rfl (OpQ.y (OpY.loadN (cs := [.int .i64 (ix xs (k * 3)), .int .i64 (ix xs (k * 3 + 1)), .int .i64 (ix xs (k * 3 + 2))]) Tagg_94 rfl (Cells.blk (.head _) ⟨rfl, rfl, rfl, trivial⟩))) ?_
        refine Run.step rfl (OpStep.call (vs := [.agg #[.int .i64 (ix xs (k * 3)), .int .i64 (ix xs (k * 3 + 1)), .int .i64 (ix xs (k * 3 + 2))]]) (caps := []) Tcall_90 rfl rfl (fun w hs => qubitsOf_spec _ _ _ w) ?_)
        rintro u1 _ rfl
        show Run _ _ (putF _ _ _ u1) [.own u1 3 1 ((gq xs k).length) (ints (gq xs k)), .blk b3 94 [.int .i64 (ix xs (k * 3)), .int .i64 (ix xs (k * 3 + 1)), .int .i64 (ix xs (k * 3 + 2))], .blk b2 115 (ints (bstL incT xs k)), .blk b1 73 [.int .i64 N, .slice (some ⟨b, o, none⟩) n c]]
        refine Run.formOwn (.head _) (fun A_u11 c_u11 hv hcapc_u11 hmaxc_u11 => ?_) (fun _ _ _ => ⟨nofun, nofun, nofun⟩)
        subst hv
        refine Run.q (v := .int .i64 ((((gq xs k).length : Nat) : Int))) rfl (OpQ.y (OpY.len Tsl_44 rfl)) ?_
        refine Run.q (v := .int .i64 0) rfl (OpQ.y (OpY.pure rfl)) ?_
        refine Run.done ?_
        refine Run.block ?_
        refine Run.loop (ι := Nat) [8, 10, 27, 28, 29, 30, 31, 32, 33, 34, 35, 36] (fun m => [(8, .int .i64 (top (bst incT xs k) ((gq xs k).take m))), (27, .int .i64 (((m : Nat) : Int)))]) (fun m => [.own (.slice A_u11 ((gq xs k).length) c_u11) 3 1 ((gq xs k).length) (ints (gq xs k)), .blk b3 94 [.int .i64 (ix xs (k * 3)), .int .i64 (ix xs (k * 3 + 1)), .int .i64 (ix xs (k * 3 + 2))], .blk b2 115 (ints (bstL incT xs k)), .blk b1 73 [.int .i64 N, .slice (some ⟨b, o, none⟩) n c]]) (fun m => m ≤ (gq xs k).length ∧ (True)) (fun m => (gq xs k).length - m) 0 ?_ ?_ ?_ ?_
        · exact ⟨Nat.zero_le _, by first | trivial | (intro i hi; omega)⟩
        · exact ⟨rfl, rfl, trivial⟩
        · exact (Some'.weak (.take (.take (.take (.take (.nil _))))))
        · rintro m j hinv
          show Run _ _ (over _ _ [(8, .int .i64 (top (bst incT xs k) ((gq xs k).take m))), (27, .int .i64 (((m : Nat) : Int)))] j) [.own (.slice A_u11 ((gq xs k).length) c_u11) 3 1 ((gq xs k).length) (ints (gq xs k)), .blk b3 94 [.int .i64 (ix xs (k * 3)), .int .i64 (ix xs (k * 3 + 1)), .int .i64 (ix xs (k * 3 + 2))], .blk b2 115 (ints (bstL incT xs k)), .blk b1 73 [.int .i64 N, .slice (some ⟨b, o, none⟩) n c]]
          try dsimp only at hinv
          refine Run.seq ?_
          refine Run.region ?_
          refine Run.q (v := .bool (decide ((((m : Nat) : Int)) < ((((gq xs k).length : Nat) : Int))))) rfl (OpQ.y (OpY.pure rfl)) ?_
          refine Run.done ?_
          refine Run.seq ?_
          refine Run.cond (b := decide ((((m : Nat) : Int)) < ((((gq xs k).length : Nat) : Int)))) rfl (fun h28 => ?_) (fun h28 => ?_)
          · have p28 := h28; try simp only [decide_eq_true_eq, decide_eq_false_iff_not, beq_iff_eq, bne_iff_ne, beq_eq_false_iff_ne, ne_eq, gt_iff_lt, ge_iff_le, Int.not_lt, Int.not_le, bne_eq_false_iff_eq, Bool.not_eq_true', Bool.not_eq_false', Bool.and_eq_true, Bool.and_eq_false_iff, Bool.or_eq_true, Bool.or_eq_false_iff, Decidable.not_not, List.cons.injEq, and_true] at p28
            have hltm : m < (gq xs k).length := by omega
            refine Run.openOwn (.head _) (by omega) (fun g2 cg2 hvg2 hcapg2 _ => ?_) (fun _ _ _ => ⟨nofun, nofun, nofun⟩)
            injection hvg2 with hAg2 _ hcg2; subst hAg2; subst hcg2
            have hq5 := hgk _ (ix_mem hltm)
            refine Run.skip ?_
            refine Run.seq ?_
            refine Run.block ?_
            refine Run.seq ?_
            refine Run.region ?_
            refine Run.q (v := .pointer (some ⟨g2, m, none⟩)) rfl (OpQ.y (OpY.index (kk := m) Tsl_44 rfl rfl (by omega) (by omega) (by first | rfl | omega))) ?_
            refine Run.q (v := .int .i64 (ix (gq xs k) (m))) rfl (OpQ.y (OpY.load1 Tone_3 rfl (Cells.own0 (.head _) (pre1 (by first | omega | (simp; omega)))))) ?_
            refine Run.q (v := .int .i64 (ix (gq xs k) (m))) rfl (OpQ.y (OpY.pure rfl)) ?_
            refine Run.done ?_
            refine Run.region ?_
            refine Run.q (v := .int .i64 (top (bst incT xs k) ((gq xs k).take m))) rfl (OpQ.y (OpY.pure rfl)) ?_
            refine Run.q (v := .int .i64 (ix (gq xs k) (m))) rfl (OpQ.y (OpY.pure rfl)) ?_
            refine Run.q (v := .pointer (some ⟨b2, (ix (gq xs k) (m)).toNat, none⟩)) rfl (OpQ.y (OpY.indexArr (kk := (ix (gq xs k) (m)).toNat) Tarr_115 rfl rfl (by omega) (by omega) (by first | rfl | omega))) ?_
            refine Run.q (v := .int .i64 (ix (bstL incT xs k) ((ix (gq xs k) (m)).toNat))) rfl (OpQ.y (OpY.load1 Tone_3 rfl (Cells.blk (.tail _ (.tail _ (List.Mem.head _))) (pre1 (by first | omega | (simp; omega)))))) ?_
            refine Run.q (v := .int .i64 (max (top (bst incT xs k) ((gq xs k).take m)) (ix (bstL incT xs k) ((ix (gq xs k) (m)).toNat)))) rfl (OpQ.y (OpY.max rfl rfl)) ?_
            refine Run.q (v := .int .i64 (max (top (bst incT xs k) ((gq xs k).take m)) (ix (bstL incT xs k) ((ix (gq xs k) (m)).toNat)))) rfl (OpQ.y (OpY.pure rfl)) ?_
            refine Run.done ?_
            refine Run.blockEnd ?_
            refine Run.region ?_
            refine Run.q (v := .int .i64 ((((m : Nat) : Int)) + 1)) rfl (OpQ.y (OpY.add rfl rfl rfl (by omega) (by omega))) ?_
            refine Run.q (v := .int .i64 ((((m : Nat) : Int)) + 1)) rfl (OpQ.y (OpY.pure rfl)) ?_
            refine Run.done ?_
            refine Run.goal ⟨(by repeat (first | exact Same.refl _ _ | refine Same.put rfl ?_ | refine Same.over rfl rfl ?_)), m + 1, ?_, ?_, ?_, ?_⟩
            · refine ⟨by omega, ?_⟩
              trivial
            · omega
            · exact ⟨(by show Value.int _ _ = Value.int _ _; rw [top_take _ _ hltm, ix_bstL hq5.1 hq5.2]), (by first | rfl | (congr 1; omega) | simp), trivial⟩
            · exact (Some'.weak (.takeEq (by first | rfl | simp) (.take (.takeEq (by first | rfl | simp) (.take (.nil _))))))
          · have p28 := h28; try simp only [decide_eq_true_eq, decide_eq_false_iff_not, beq_iff_eq, bne_iff_ne, beq_eq_false_iff_ne, ne_eq, gt_iff_lt, ge_iff_le, Int.not_lt, Int.not_le, bne_eq_false_iff_eq, Bool.not_eq_true', Bool.not_eq_false', Bool.and_eq_true, Bool.and_eq_false_iff, Bool.or_eq_true, Bool.or_eq_false_iff, Decidable.not_not, List.cons.injEq, and_true] at p28
            have hknm : m = (gq xs k).length := by omega
            have hD : top (bst incT xs k) ((gq xs k).take m) + (if decide (ix xs (k * 3) = 7 ∨ ix xs (k * 3) = 8) then (1 : Int) else 0) = dep incT xs k := by
              rw [hknm, List.take_length]; simp [dep, incT]
            have hdl := hbl.2.2
            refine Run.exit rfl ?_
            refine Run.seq ?_
            refine Run.region ?_
            refine Run.q (v := .int .i64 (top (bst incT xs k) ((gq xs k).take m))) rfl (OpQ.y (OpY.pure rfl)) ?_
            refine Run.q (v := .pointer (some ⟨b3, 0, none⟩)) rfl (OpQ.y (OpY.fieldAddr Tfo_94_0 rfl rfl)) ?_
            refine Run.q (v := .int .i64 (ix xs (k * 3))) rfl (OpQ.y (OpY.load1 Tone_3 rfl (Cells.blk (.tail _ (List.Mem.head _)) ⟨rfl, trivial⟩))) ?_
            refine Run.q (v := .bool (decide ((ix xs (k * 3)) = 7 ∨ (ix xs (k * 3)) = 8))) rfl (OpQ.call (vs := [.int .i64 (ix xs (k * 3))]) (caps := []) Tcall_92 rfl rfl (fun w hs => isT_spec _ w)) ?_
            refine Run.q (v := .int .i64 (if decide ((ix xs (k * 3)) = 7 ∨ (ix xs (k * 3)) = 8) then (1 : Int) else 0)) rfl (OpQ.call (vs := [.bool (decide ((ix xs (k * 3)) = 7 ∨ (ix xs (k * 3)) = 8))]) (caps := []) Tcall_91 rfl rfl (fun w hs => small_spec _ w)) ?_
            refine Run.q (v := .int .i64 (dep incT xs k)) rfl (OpQ.y (OpY.add rfl rfl hD (by omega) (by omega))) ?_
            refine Run.q (v := .int .i64 (dep incT xs k)) rfl (OpQ.y (OpY.pure rfl)) ?_
            refine Run.done ?_
            refine Run.seq ?_
            refine Run.seq ?_
            refine Run.region ?_
            refine Run.q (v := .agg #[.int .i64 (ix xs (k * 3)), .int .i64 (ix xs (k * 3 + 1)), .int .i64 (ix xs (k * 3 + 2))]) rfl (OpQ.y (OpY.loadN (cs := [.int .i64 (ix xs (k * 3)), .int .i64 (ix xs (k * 3 + 1)), .int .i64 (ix xs (k * 3 + 2))]) Tagg_94 rfl (Cells.blk (.tail _ (List.Mem.head _)) ⟨rfl, rfl, rfl, trivial⟩))) ?_
            refine Run.step rfl (OpStep.call (vs := [.agg #[.int .i64 (ix xs (k * 3)), .int .i64 (ix xs (k * 3 + 1)), .int .i64 (ix xs (k * 3 + 2))]]) (caps := []) Tcall_90 rfl rfl (fun w hs => qubitsOf_spec _ _ _ w) ?_)
            rintro u2 _ rfl
            show Run _ _ (putF _ _ _ u2) [.own u2 3 1 ((gq xs k).length) (ints (gq xs k)), .own (.slice A_u11 ((gq xs k).length) c_u11) 3 1 ((gq xs k).length) (ints (gq xs k)), .blk b3 94 [.int .i64 (ix xs (k * 3)), .int .i64 (ix xs (k * 3 + 1)), .int .i64 (ix xs (k * 3 + 2))], .blk b2 115 (ints (bstL incT xs k)), .blk b1 73 [.int .i64 N, .slice (some ⟨b, o, none⟩) n c]]
            refine Run.formOwn (.head _) (fun A_u21 c_u21 hv hcapc_u21 hmaxc_u21 => ?_) (fun _ _ _ => ⟨nofun, nofun, nofun⟩)
            subst hv
            refine Run.q (v := .int .i64 ((((gq xs k).length : Nat) : Int))) rfl (OpQ.y (OpY.len Tsl_44 rfl)) ?_
            refine Run.q (v := .int .i64 0) rfl (OpQ.y (OpY.pure rfl)) ?_
            refine Run.done ?_
            refine Run.block ?_
            refine Run.loop (ι := Nat) [12, 46, 47, 48, 49, 50, 51, 52, 53] (fun m => [(46, .int .i64 (((m : Nat) : Int)))]) (fun m => [.own (.slice A_u21 ((gq xs k).length) c_u21) 3 1 ((gq xs k).length) (ints (gq xs k)), .own (.slice A_u11 ((gq xs k).length) c_u11) 3 1 ((gq xs k).length) (ints (gq xs k)), .blk b3 94 [.int .i64 (ix xs (k * 3)), .int .i64 (ix xs (k * 3 + 1)), .int .i64 (ix xs (k * 3 + 2))], .blk b2 115 (ints (putQ (bstL incT xs k) (dep incT xs k) ((gq xs k).take m))), .blk b1 73 [.int .i64 N, .slice (some ⟨b, o, none⟩) n c]]) (fun m => m ≤ (gq xs k).length ∧ (True)) (fun m => (gq xs k).length - m) 0 ?_ ?_ ?_ ?_
            · exact ⟨Nat.zero_le _, by first | trivial | (intro i hi; omega)⟩
            · exact ⟨rfl, trivial⟩
            · exact (Some'.weak (.take (.take (.take (.takeEq (by first | (rw [putQ_take _ _ _ hltm]; done) | rfl) (.take (.nil _)))))))
            · rintro m j hinv
              show Run _ _ (over _ _ [(46, .int .i64 (((m : Nat) : Int)))] j) [.own (.slice A_u21 ((gq xs k).length) c_u21) 3 1 ((gq xs k).length) (ints (gq xs k)), .own (.slice A_u11 ((gq xs k).length) c_u11) 3 1 ((gq xs k).length) (ints (gq xs k)), .blk b3 94 [.int .i64 (ix xs (k * 3)), .int .i64 (ix xs (k * 3 + 1)), .int .i64 (ix xs (k * 3 + 2))], .blk b2 115 (ints (putQ (bstL incT xs k) (dep incT xs k) ((gq xs k).take m))), .blk b1 73 [.int .i64 N, .slice (some ⟨b, o, none⟩) n c]]
              try dsimp only at hinv
              refine Run.seq ?_
              refine Run.region ?_
              refine Run.q (v := .bool (decide ((((m : Nat) : Int)) < ((((gq xs k).length : Nat) : Int))))) rfl (OpQ.y (OpY.pure rfl)) ?_
              refine Run.done ?_
              refine Run.seq ?_
              refine Run.cond (b := decide ((((m : Nat) : Int)) < ((((gq xs k).length : Nat) : Int)))) rfl (fun h47 => ?_) (fun h47 => ?_)
              · have p47 := h47; try simp only [decide_eq_true_eq, decide_eq_false_iff_not, beq_iff_eq, bne_iff_ne, beq_eq_false_iff_ne, ne_eq, gt_iff_lt, ge_iff_le, Int.not_lt, Int.not_le, bne_eq_false_iff_eq, Bool.not_eq_true', Bool.not_eq_false', Bool.and_eq_true, Bool.and_eq_false_iff, Bool.or_eq_true, Bool.or_eq_false_iff, Decidable.not_not, List.cons.injEq, and_true] at p47
                have hltm : m < (gq xs k).length := by omega
                refine Run.openOwn (.head _) (by omega) (fun g3 cg3 hvg3 hcapg3 _ => ?_) (fun _ _ _ => ⟨nofun, nofun, nofun⟩)
                injection hvg3 with hAg3 _ hcg3; subst hAg3; subst hcg3
                have hq5 := hgk _ (ix_mem hltm)
                refine Run.skip ?_
                refine Run.seq ?_
                refine Run.block ?_
                refine Run.seq ?_
                refine Run.region ?_
                refine Run.q (v := .pointer (some ⟨g3, m, none⟩)) rfl (OpQ.y (OpY.index (kk := m) Tsl_44 rfl rfl (by omega) (by omega) (by first | rfl | omega))) ?_
                refine Run.q (v := .int .i64 (ix (gq xs k) (m))) rfl (OpQ.y (OpY.load1 Tone_3 rfl (Cells.own0 (.head _) (pre1 (by first | omega | (simp; omega)))))) ?_
                refine Run.q (v := .int .i64 (ix (gq xs k) (m))) rfl (OpQ.y (OpY.pure rfl)) ?_
                refine Run.done ?_
                refine Run.region ?_
                refine Run.q (v := .int .i64 (ix (gq xs k) (m))) rfl (OpQ.y (OpY.pure rfl)) ?_
                refine Run.q (v := .int .i64 (dep incT xs k)) rfl (OpQ.y (OpY.pure rfl)) ?_
                refine Run.q (v := .pointer (some ⟨b2, (ix (gq xs k) (m)).toNat, none⟩)) rfl (OpQ.y (OpY.indexArr (kk := (ix (gq xs k) (m)).toNat) Tarr_115 rfl rfl (by omega) (by omega) (by first | rfl | omega))) ?_
                refine Run.step rfl (OpStep.storeInts (o := (ix (gq xs k) (m)).toNat) (a := dep incT xs k) Tsize_3 rfl rfl (.there _ (.there _ (.there _ (.here _)))) (by first | omega | (simp; omega)) ?_)
                refine Run.done ?_
                refine Run.blockEnd ?_
                refine Run.region ?_
                refine Run.q (v := .int .i64 ((((m : Nat) : Int)) + 1)) rfl (OpQ.y (OpY.add rfl rfl rfl (by omega) (by omega))) ?_
                refine Run.q (v := .int .i64 ((((m : Nat) : Int)) + 1)) rfl (OpQ.y (OpY.pure rfl)) ?_
                refine Run.done ?_
                refine Run.goal ⟨(by repeat (first | exact Same.refl _ _ | refine Same.put rfl ?_ | refine Same.over rfl rfl ?_)), m + 1, ?_, ?_, ?_, ?_⟩
                · refine ⟨by omega, ?_⟩
                  trivial
                · omega
                · exact ⟨(by first | rfl | (congr 1; omega) | simp), trivial⟩
                · exact (Some'.weak (.takeEq (by first | (rw [putQ_take _ _ _ hltm]; done) | rfl) (.takeEq (by first | (rw [putQ_take _ _ _ hltm]; done) | rfl) (.take (.takeEq (by first | (rw [putQ_take _ _ _ hltm]; done) | rfl) (.take (.nil _)))))))
              · have p47 := h47; try simp only [decide_eq_true_eq, decide_eq_false_iff_not, beq_iff_eq, bne_iff_ne, beq_eq_false_iff_ne, ne_eq, gt_iff_lt, ge_iff_le, Int.not_lt, Int.not_le, bne_eq_false_iff_eq, Bool.not_eq_true', Bool.not_eq_false', Bool.and_eq_true, Bool.and_eq_false_iff, Bool.or_eq_true, Bool.or_eq_false_iff, Decidable.not_not, List.cons.injEq, and_true] at p47
                have hknm : m = (gq xs k).length := by omega
                have hB : putQ (bstL incT xs k) (dep incT xs k) ((gq xs k).take m) = bstL incT xs (k + 1) := by rw [hknm, List.take_length]; exact putQ_bst hgk
                refine Run.exit rfl ?_
                refine Run.region ?_
                refine Run.q (v := .int .i64 (mxD incT xs k)) rfl (OpQ.y (OpY.pure rfl)) ?_
                refine Run.q (v := .int .i64 (dep incT xs k)) rfl (OpQ.y (OpY.pure rfl)) ?_
                refine Run.q (v := .int .i64 (max (mxD incT xs k) (dep incT xs k))) rfl (OpQ.y (OpY.max rfl rfl)) ?_
                refine Run.q (v := .int .i64 (max (mxD incT xs k) (dep incT xs k))) rfl (OpQ.y (OpY.pure rfl)) ?_
                refine Run.done ?_
                refine Run.blockEnd ?_
                refine Run.region ?_
                refine Run.q (v := .int .i64 ((((k : Nat) : Int)) + 1)) rfl (OpQ.y (OpY.add rfl rfl rfl (by omega) (by omega))) ?_
                refine Run.q (v := .int .i64 ((((k : Nat) : Int)) + 1)) rfl (OpQ.y (OpY.pure rfl)) ?_
                refine Run.done ?_
                refine Run.goal ⟨(by repeat (first | exact Same.refl _ _ | refine Same.put rfl ?_ | refine Same.over rfl rfl ?_)), k + 1, ?_, ?_, ?_, ?_⟩
                · refine ⟨by omega, ?_⟩
                  trivial
                · omega
                · exact ⟨(by first | rfl | (congr 1; omega) | simp), (by first | rfl | (congr 1; omega) | simp), trivial⟩
                · exact (Some'.weak (.skip (.skip (.skip (.takeEq (by first | rw [hB] | rfl) (.takeEq (by first | rw [hB] | rfl) (.nil _)))))))
      · have p21 := h21; try simp only [decide_eq_true_eq, decide_eq_false_iff_not, beq_iff_eq, bne_iff_ne, beq_eq_false_iff_ne, ne_eq, gt_iff_lt, ge_iff_le, Int.not_lt, Int.not_le, bne_eq_false_iff_eq, Bool.not_eq_true', Bool.not_eq_false', Bool.and_eq_true, Bool.and_eq_false_iff, Bool.or_eq_true, Bool.or_eq_false_iff, Decidable.not_not, List.cons.injEq, and_true] at p21
        have hknk : k = n := by omega
        refine Run.exit rfl ?_
        refine Run.seq ?_
        refine Run.region ?_
        refine Run.q (v := .int .i64 (mxD incT xs k)) rfl (OpQ.y (OpY.pure rfl)) ?_
        refine Run.q (v := .int .i64 (mxD incT xs k)) rfl (OpQ.y (OpY.pure rfl)) ?_
        refine Run.q (v := .bool true) rfl (OpQ.y (OpY.pure rfl)) ?_
        refine Run.done ?_
        refine Run.ret ?_
        refine ⟨.tuple #[.int .i64 (mxD incT xs k), .bool true], [], Out.two rfl rfl rfl, (Some'.weak (.nil _)), ?_⟩
        show _ = _
        rw [hok, if_pos rfl, ← hknk]


def deepL (inc : Int → Int) (xs : List Int) (k : Nat) : List Int := (List.range k).map (dep inc xs)
@[simp] theorem deepL_length (inc : Int → Int) (xs : List Int) (k : Nat) : (deepL inc xs k).length = k := by simp [deepL]
theorem deepL_succ (inc : Int → Int) (xs : List Int) (k : Nat) : deepL inc xs (k + 1) = deepL inc xs k ++ [dep inc xs k] := by simp [deepL, List.range_succ]
theorem ix_deepL {inc : Int → Int} {xs : List Int} {k m : Nat} (h : m < k) : ix (deepL inc xs k) m = dep inc xs m := by simp [ix, deepL, List.getD, h]

set_option maxHeartbeats 1000000 in
set_option maxRecDepth 20000 in
theorem sTDepthOf_spec {N : Int} {va : Value} {n : Nat} {xs : List Int} {w : World} (ha : Sl w va 3 n (ints xs)) : Calls Try.prog 47 #[.agg #[.int .i64 N, va]] w (Post No w fun v _ => v = .tuple #[.int .i64 (if circOk N xs n then mxD incT xs n else 0), .bool (circOk N xs n)]) := by
  have hxl := ha.len
  have hn := ha.le
  obtain ⟨A, c, rfl, _, _⟩ := ha.form0
  have hi1 := incT_range
  refine enter (n := 61) (args := [.agg #[.int .i64 N, .slice A n c]]) Try.func47 rfl rfl (St.empty _ _) ?_
  refine Run.seq ?_
  refine Run.region ?_
  refine Run.step rfl (OpStep.box (us := [.int .i64 N, .slice A n c]) rfl fun b1 => ?_)
  refine Run.q (v := .int .i64 0) rfl (OpQ.y (OpY.pure rfl)) ?_
  refine Run.q (v := .bool false) rfl (OpQ.y (OpY.pure rfl)) ?_
  refine Run.done ?_
  refine Run.seq ?_
  refine Run.seq ?_
  refine Run.region ?_
  refine Run.q (v := .agg #[.int .i64 N, .slice A n c]) rfl (OpQ.y (OpY.loadN (cs := [.int .i64 N, .slice A n c]) Tagg_73 rfl (Cells.blk (.head _) ⟨rfl, rfl, trivial⟩))) ?_
  refine Run.q (v := .bool (circOk N xs n)) rfl (OpQ.call (vs := [.agg #[.int .i64 N, .slice A n c]]) (caps := []) Tcall_85 rfl rfl (fun w hs => l4Good_spec (hs.sl ha))) ?_
  refine Run.q (v := .bool (!(circOk N xs n))) rfl (OpQ.y (OpY.pure rfl)) ?_
  refine Run.done ?_
  refine Run.cond (b := !(circOk N xs n)) rfl (fun h13 => ?_) (fun h13 => ?_)
  · have p13 := h13; try simp only [decide_eq_true_eq, decide_eq_false_iff_not, beq_iff_eq, bne_iff_ne, beq_eq_false_iff_ne, ne_eq, gt_iff_lt, ge_iff_le, Int.not_lt, Int.not_le, bne_eq_false_iff_eq, Bool.not_eq_true', Bool.not_eq_false', Bool.and_eq_true, Bool.and_eq_false_iff, Bool.or_eq_true, Bool.or_eq_false_iff, Decidable.not_not, List.cons.injEq, and_true] at p13
    have hok : circOk N xs n = false := by simpa using p13
    refine Run.seq ?_
    refine Run.region ?_
    refine Run.q (v := .int .i64 0) rfl (OpQ.y (OpY.pure rfl)) ?_
    refine Run.q (v := .bool false) rfl (OpQ.y (OpY.pure rfl)) ?_
    refine Run.done ?_
    refine Run.ret ?_
    refine ⟨.tuple #[.int .i64 0, .bool false], [], Out.two rfl rfl rfl, (Some'.weak (.nil _)), ?_⟩
    show _ = _
    rw [hok]; first | rfl | (rw [if_neg (by decide)]) | (rw [if_pos rfl])
  · have p13 := h13; try simp only [decide_eq_true_eq, decide_eq_false_iff_not, beq_iff_eq, bne_iff_ne, beq_eq_false_iff_ne, ne_eq, gt_iff_lt, ge_iff_le, Int.not_lt, Int.not_le, bne_eq_false_iff_eq, Bool.not_eq_true', Bool.not_eq_false', Bool.and_eq_true, Bool.and_eq_false_iff, Bool.or_eq_true, Bool.or_eq_false_iff, Decidable.not_not, List.cons.injEq, and_true] at p13
    have hok : circOk N xs n = true := by simpa using p13
    have h400 := circOk_n hok
    refine Run.skip ?_
    refine Run.seq ?_
    refine Run.region ?_
    refine Run.q (v := .slice none 0 0) rfl (OpQ.y (OpY.pure rfl)) ?_
    refine Run.done ?_
    refine Run.seq ?_
    refine Run.region ?_
    refine Run.q (v := .int .i64 0) rfl (OpQ.y (OpY.pure rfl)) ?_
    refine Run.done ?_
    refine Run.seq ?_
    refine Run.seq ?_
    refine Run.region ?_
    refine Run.q (v := .pointer (some ⟨b1, 1, none⟩)) rfl (OpQ.y (OpY.fieldAddr Tfo_73_1 rfl rfl)) ?_
    refine Run.q (v := .slice A n c) rfl (OpQ.y (OpY.load1 Tone_22 rfl (Cells.blk (.head _) ⟨rfl, trivial⟩))) ?_
    refine Run.q (v := .int .i64 (((n : Nat) : Int))) rfl (OpQ.y (OpY.len Tsl_22 rfl)) ?_
    refine Run.q (v := .int .i64 0) rfl (OpQ.y (OpY.pure rfl)) ?_
    refine Run.done ?_
    refine Run.block ?_
    refine Run.loop (ι := Nat × Value) [4, 5, 6, 7, 8, 9, 10, 17, 18, 19, 20, 21, 22, 23, 24, 25, 26, 27, 28, 29, 30, 31, 32, 33, 34, 35, 36, 37, 38, 39, 40, 41, 42, 43, 44, 45, 46, 47, 48, 49, 50, 51, 52, 53, 54, 55, 56, 57, 58, 59] (fun ⟨k, v⟩ => [(4, v), (5, .int .i64 (mxD incT xs k)), (17, .int .i64 (((k : Nat) : Int)))]) (fun ⟨k, v⟩ => [.own v 3 1 k (ints (deepL incT xs k)), .blk b1 73 [.int .i64 N, .slice A n c]]) (fun ⟨k, v⟩ => k ≤ n) (fun ⟨k, v⟩ => n - k) (0, .slice none 0 0) ?_ ?_ ?_ ?_
    · exact Nat.zero_le _
    · exact ⟨rfl, rfl, rfl, trivial⟩
    · exact ((Weak.nilOwn 3 1).trans (Some'.weak (.takeEq rfl (.take (.nil _)))))
    · rintro ⟨k, v⟩ j hinv
      show Run _ _ (over _ _ [(4, v), (5, .int .i64 (mxD incT xs k)), (17, .int .i64 (((k : Nat) : Int)))] j) [.own v 3 1 k (ints (deepL incT xs k)), .blk b1 73 [.int .i64 N, .slice A n c]]
      try dsimp only at hinv
      refine Run.seq ?_
      refine Run.region ?_
      refine Run.q (v := .bool (decide ((((k : Nat) : Int)) < (((n : Nat) : Int))))) rfl (OpQ.y (OpY.pure rfl)) ?_
      refine Run.done ?_
      refine Run.seq ?_
      refine Run.cond (b := decide ((((k : Nat) : Int)) < (((n : Nat) : Int)))) rfl (fun h18 => ?_) (fun h18 => ?_)
      · have p18 := h18; try simp only [decide_eq_true_eq, decide_eq_false_iff_not, beq_iff_eq, bne_iff_ne, beq_eq_false_iff_ne, ne_eq, gt_iff_lt, ge_iff_le, Int.not_lt, Int.not_le, bne_eq_false_iff_eq, Bool.not_eq_true', Bool.not_eq_false', Bool.and_eq_true, Bool.and_eq_false_iff, Bool.or_eq_true, Bool.or_eq_false_iff, Decidable.not_not, List.cons.injEq, and_true] at p18
        have hltk : k < n := by omega
        obtain ⟨b, o, rfl⟩ := ha.opn (by omega)
        have hmr := mxD_range hi1 xs k
        have hbl := bst_le (fun k => (hi1 k).2) xs k
        have hdn := dep_nonneg (fun k => (hi1 k).1) xs k
        refine Run.skip ?_
        refine Run.seq ?_
        refine Run.block ?_
        refine Run.seq ?_
        refine Run.region ?_
        refine Run.q (v := .int .i64 (((k : Nat) : Int))) rfl (OpQ.y (OpY.pure rfl)) ?_
        refine Run.q (v := .pointer (some ⟨b, o + k * 3, none⟩)) rfl (OpQ.y (OpY.index (kk := k) Tsl_22 rfl rfl (by omega) (by omega) (by first | rfl | omega))) ?_
        refine Run.q (v := .agg #[.int .i64 (ix xs (k * 3)), .int .i64 (ix xs (k * 3 + 1)), .int .i64 (ix xs (k * 3 + 2))]) rfl (OpQ.y (OpY.loadN (cs := [.int .i64 (ix xs (k * 3)), .int .i64 (ix xs (k * 3 + 1)), .int .i64 (ix xs (k * 3 + 2))]) Tagg_94 rfl (Cells.arg (k := k * 3) ha rfl (by omega) (pre3 (by omega))))) ?_
        refine Run.step rfl (OpStep.alloc (zs := [.int .i64 0, .int .i64 0, .int .i64 0]) Tzero_94 fun b2 => ?_)
        refine Run.q (v := .int .i64 (((k : Nat) : Int))) rfl (OpQ.y (OpY.pure rfl)) ?_
        refine Run.step rfl (OpStep.storeAll (us := [.int .i64 (ix xs (k * 3)), .int .i64 (ix xs (k * 3 + 1)), .int .i64 (ix xs (k * 3 + 2))]) Tsize_94 rfl rfl rfl (.here _) rfl ?_)
        refine Run.done ?_
        refine Run.seq ?_
        refine Run.region ?_
        refine Run.q (v := .int .i64 0) rfl (OpQ.y (OpY.pure rfl)) ?_
        refine Run.done ?_
        refine Run.seq ?_
        refine Run.seq ?_
        refine Run.region ?_
        refine Run.q (v := .pointer (some ⟨b1, 1, none⟩)) rfl (OpQ.y (OpY.fieldAddr Tfo_73_1 rfl rfl)) ?_
        refine Run.q (v := .slice (some ⟨b, o, none⟩) n c) rfl (OpQ.y (OpY.load1 Tone_22 rfl (Cells.blk (.tail _ (.tail _ (List.Mem.head _))) ⟨rfl, trivial⟩))) ?_
        refine Run.q (v := .int .i64 (((k : Nat) : Int))) rfl (OpQ.y (OpY.pure rfl)) ?_
        refine Run.q (v := .slice (some ⟨b, o, none⟩) k c) rfl (OpQ.y (OpY.sliceHN (h := k) Tsl_22 rfl rfl rfl (by omega))) ?_
        refine Run.q (v := .int .i64 (((k : Nat) : Int))) rfl (OpQ.y (OpY.len Tsl_22 rfl)) ?_
        refine Run.q (v := .int .i64 0) rfl (OpQ.y (OpY.pure rfl)) ?_
        refine Run.done ?_
        refine Run.block ?_
        refine Run.loop (ι := Nat) [8, 9, 10, 27, 28, 29, 30, 31, 32, 33, 34, 35, 36, 37, 38, 39, 40, 41] (fun m => [(8, .int .i64 (mxC incT xs (gq xs k) m)), (27, .int .i64 (((m : Nat) : Int)))]) (fun m => [.blk b2 94 [.int .i64 (ix xs (k * 3)), .int .i64 (ix xs (k * 3 + 1)), .int .i64 (ix xs (k * 3 + 2))], .own v 3 1 k (ints (deepL incT xs k)), .blk b1 73 [.int .i64 N, .slice (some ⟨b, o, none⟩) n c]]) (fun m => m ≤ k) (fun m => k - m) 0 ?_ ?_ ?_ ?_
        · exact Nat.zero_le _
        · exact ⟨rfl, rfl, trivial⟩
        · exact (Some'.weak (.take (.take (.take (.nil _)))))
        · rintro m j hinv
          show Run _ _ (over _ _ [(8, .int .i64 (mxC incT xs (gq xs k) m)), (27, .int .i64 (((m : Nat) : Int)))] j) [.blk b2 94 [.int .i64 (ix xs (k * 3)), .int .i64 (ix xs (k * 3 + 1)), .int .i64 (ix xs (k * 3 + 2))], .own v 3 1 k (ints (deepL incT xs k)), .blk b1 73 [.int .i64 N, .slice (some ⟨b, o, none⟩) n c]]
          try dsimp only at hinv
          refine Run.seq ?_
          refine Run.region ?_
          refine Run.q (v := .bool (decide ((((m : Nat) : Int)) < (((k : Nat) : Int))))) rfl (OpQ.y (OpY.pure rfl)) ?_
          refine Run.done ?_
          refine Run.seq ?_
          refine Run.cond (b := decide ((((m : Nat) : Int)) < (((k : Nat) : Int)))) rfl (fun h28 => ?_) (fun h28 => ?_)
          · have p28 := h28; try simp only [decide_eq_true_eq, decide_eq_false_iff_not, beq_iff_eq, bne_iff_ne, beq_eq_false_iff_ne, ne_eq, gt_iff_lt, ge_iff_le, Int.not_lt, Int.not_le, bne_eq_false_iff_eq, Bool.not_eq_true', Bool.not_eq_false', Bool.and_eq_true, Bool.and_eq_false_iff, Bool.or_eq_true, Bool.or_eq_false_iff, Decidable.not_not, List.cons.injEq, and_true] at p28
            have hltm : m < k := by omega
            have hdl := deepL_length incT xs k
            refine Run.openOwn (.tail _ (List.Mem.head _)) (by omega) (fun gd cd hvgd hcapgd _ => ?_) (fun _ _ _ => ⟨nofun, nofun, nofun⟩)
            subst hvgd
            refine Run.skip ?_
            refine Run.seq ?_
            refine Run.block ?_
            refine Run.seq ?_
            refine Run.region ?_
            refine Run.q (v := .int .i64 (((m : Nat) : Int))) rfl (OpQ.y (OpY.pure rfl)) ?_
            refine Run.q (v := .pointer (some ⟨b, o + m * 3, none⟩)) rfl (OpQ.y (OpY.index (kk := m) Tsl_22 rfl rfl (by omega) (by omega) (by first | rfl | omega))) ?_
            refine Run.q (v := .agg #[.int .i64 (ix xs (m * 3)), .int .i64 (ix xs (m * 3 + 1)), .int .i64 (ix xs (m * 3 + 2))]) rfl (OpQ.y (OpY.loadN (cs := [.int .i64 (ix xs (m * 3)), .int .i64 (ix xs (m * 3 + 1)), .int .i64 (ix xs (m * 3 + 2))]) Tagg_94 rfl (Cells.arg (k := m * 3) ha rfl (by omega) (pre3 (by omega))))) ?_
            refine Run.step rfl (OpStep.alloc (zs := [.int .i64 0, .int .i64 0, .int .i64 0]) Tzero_94 fun b3 => ?_)
            refine Run.q (v := .int .i64 (((m : Nat) : Int))) rfl (OpQ.y (OpY.pure rfl)) ?_
            refine Run.step rfl (OpStep.storeAll (us := [.int .i64 (ix xs (m * 3)), .int .i64 (ix xs (m * 3 + 1)), .int .i64 (ix xs (m * 3 + 2))]) Tsize_94 rfl rfl rfl (.here _) rfl ?_)
            refine Run.done ?_
            refine Run.seq ?_
            refine Run.region ?_
            refine Run.q (v := .agg #[.int .i64 (ix xs (k * 3)), .int .i64 (ix xs (k * 3 + 1)), .int .i64 (ix xs (k * 3 + 2))]) rfl (OpQ.y (OpY.loadN (cs := [.int .i64 (ix xs (k * 3)), .int .i64 (ix xs (k * 3 + 1)), .int .i64 (ix xs (k * 3 + 2))]) Tagg_94 rfl (Cells.blk (.tail _ (List.Mem.head _)) ⟨rfl, rfl, rfl, trivial⟩))) ?_
            refine Run.q (v := .agg #[.int .i64 (ix xs (m * 3)), .int .i64 (ix xs (m * 3 + 1)), .int .i64 (ix xs (m * 3 + 2))]) rfl (OpQ.y (OpY.loadN (cs := [.int .i64 (ix xs (m * 3)), .int .i64 (ix xs (m * 3 + 1)), .int .i64 (ix xs (m * 3 + 2))]) Tagg_94 rfl (Cells.blk (.head _) ⟨rfl, rfl, rfl, trivial⟩))) ?_
            refine Run.q (v := .bool (common (gq xs k) (gq xs m))) rfl (OpQ.call (vs := [.agg #[.int .i64 (ix xs (k * 3)), .int .i64 (ix xs (k * 3 + 1)), .int .i64 (ix xs (k * 3 + 2))], .agg #[.int .i64 (ix xs (m * 3)), .int .i64 (ix xs (m * 3 + 1)), .int .i64 (ix xs (m * 3 + 2))]]) (caps := []) Tcall_86 rfl rfl (fun w hs => l24Common_spec _ _ _ _ _ _ w)) ?_
            refine Run.done ?_
            refine Run.cond (b := common (gq xs k) (gq xs m)) rfl (fun h34 => ?_) (fun h34 => ?_)
            · have p34 := h34; try simp only [decide_eq_true_eq, decide_eq_false_iff_not, beq_iff_eq, bne_iff_ne, beq_eq_false_iff_ne, ne_eq, gt_iff_lt, ge_iff_le, Int.not_lt, Int.not_le, bne_eq_false_iff_eq, Bool.not_eq_true', Bool.not_eq_false', Bool.and_eq_true, Bool.and_eq_false_iff, Bool.or_eq_true, Bool.or_eq_false_iff, Decidable.not_not, List.cons.injEq, and_true] at p34
              refine Run.region ?_
              refine Run.q (v := .int .i64 (mxC incT xs (gq xs k) m)) rfl (OpQ.y (OpY.pure rfl)) ?_
              refine Run.q (v := .slice (some ⟨gd, 0, none⟩) k cd) rfl (OpQ.y (OpY.pure rfl)) ?_
              refine Run.q (v := .int .i64 (((m : Nat) : Int))) rfl (OpQ.y (OpY.pure rfl)) ?_
              refine Run.q (v := .pointer (some ⟨gd, m, none⟩)) rfl (OpQ.y (OpY.index (kk := m) Tsl_44 rfl rfl (by omega) (by omega) (by first | rfl | omega))) ?_
              refine Run.q (v := .int .i64 (ix (deepL incT xs k) (m))) rfl (OpQ.y (OpY.load1 Tone_3 rfl (Cells.own0 (.tail _ (.tail _ (List.Mem.head _))) (pre1 (by first | omega | (simp; omega)))))) ?_
              refine Run.q (v := .int .i64 (max (mxC incT xs (gq xs k) m) (ix (deepL incT xs k) (m)))) rfl (OpQ.call (vs := [.int .i64 (mxC incT xs (gq xs k) m), .int .i64 (ix (deepL incT xs k) (m))]) (caps := []) Tcall_87 rfl rfl (fun w hs => l1Most_spec _ _ w)) ?_
              refine Run.q (v := .int .i64 (max (mxC incT xs (gq xs k) m) (ix (deepL incT xs k) (m)))) rfl (OpQ.y (OpY.pure rfl)) ?_
              refine Run.done ?_
              refine Run.blockEnd ?_
              refine Run.region ?_
              refine Run.q (v := .int .i64 ((((m : Nat) : Int)) + 1)) rfl (OpQ.y (OpY.add rfl rfl rfl (by omega) (by omega))) ?_
              refine Run.q (v := .int .i64 ((((m : Nat) : Int)) + 1)) rfl (OpQ.y (OpY.pure rfl)) ?_
              refine Run.done ?_
              refine Run.goal ⟨(by repeat (first | exact Same.refl _ _ | refine Same.put rfl ?_ | refine Same.over rfl rfl ?_)), m + 1, ?_, ?_, ?_, ?_⟩
              · omega
              · omega
              · exact ⟨(by show Value.int _ _ = Value.int _ _; first | rw [mxC, if_pos h34, ix_deepL hltm] | rw [mxC, if_neg (by rw [h34]; decide)]), (by first | rfl | (congr 1; omega) | simp), trivial⟩
              · exact (Some'.weak (.skip (.take (.takeEq (by first | rfl | simp) (.take (.nil _))))))
            · have p34 := h34; try simp only [decide_eq_true_eq, decide_eq_false_iff_not, beq_iff_eq, bne_iff_ne, beq_eq_false_iff_ne, ne_eq, gt_iff_lt, ge_iff_le, Int.not_lt, Int.not_le, bne_eq_false_iff_eq, Bool.not_eq_true', Bool.not_eq_false', Bool.and_eq_true, Bool.and_eq_false_iff, Bool.or_eq_true, Bool.or_eq_false_iff, Decidable.not_not, List.cons.injEq, and_true] at p34
              refine Run.skip ?_
              refine Run.blockEnd ?_
              refine Run.region ?_
              refine Run.q (v := .int .i64 ((((m : Nat) : Int)) + 1)) rfl (OpQ.y (OpY.add rfl rfl rfl (by omega) (by omega))) ?_
              refine Run.q (v := .int .i64 ((((m : Nat) : Int)) + 1)) rfl (OpQ.y (OpY.pure rfl)) ?_
              refine Run.done ?_
              refine Run.goal ⟨(by repeat (first | exact Same.refl _ _ | refine Same.put rfl ?_ | refine Same.over rfl rfl ?_)), m + 1, ?_, ?_, ?_, ?_⟩
              · omega
              · omega
              · exact ⟨(by show Value.int _ _ = Value.int _ _; first | rw [mxC, if_pos h34, ix_deepL hltm] | rw [mxC, if_neg (by rw [h34]; decide)]), (by first | rfl | (congr 1; omega) | simp), trivial⟩
              · exact (Some'.weak (.skip (.take (.takeEq (by first | rfl | simp) (.take (.nil _))))))
          · have p28 := h28; try simp only [decide_eq_true_eq, decide_eq_false_iff_not, beq_iff_eq, bne_iff_ne, beq_eq_false_iff_ne, ne_eq, gt_iff_lt, ge_iff_le, Int.not_lt, Int.not_le, bne_eq_false_iff_eq, Bool.not_eq_true', Bool.not_eq_false', Bool.and_eq_true, Bool.and_eq_false_iff, Bool.or_eq_true, Bool.or_eq_false_iff, Decidable.not_not, List.cons.injEq, and_true] at p28
            have hmk : m = k := by omega
            have hmc : mxC incT xs (gq xs k) m = top (bst incT xs k) (gq xs k) := by rw [hmk]; exact mxC_eq (fun k => (hi1 k).1) xs (gq_cases xs k) k
            have hge : 0 ≤ top (bst incT xs k) (gq xs k) := (top_ge _ _ 0).1
            refine Run.exit rfl ?_
            refine Run.seq ?_
            refine Run.seq ?_
            refine Run.region ?_
            refine Run.q (v := .pointer (some ⟨b2, 0, none⟩)) rfl (OpQ.y (OpY.fieldAddr Tfo_94_0 rfl rfl)) ?_
            refine Run.q (v := .int .i64 (ix xs (k * 3))) rfl (OpQ.y (OpY.load1 Tone_3 rfl (Cells.blk (.head _) ⟨rfl, trivial⟩))) ?_
            refine Run.q (v := .bool ((ix xs (k * 3)) == 7)) rfl (OpQ.y (OpY.pure rfl)) ?_
            rcases Bool.eq_false_or_eq_true ((ix xs (k * 3)) == 7) with h45 | h45
            · refine Run.q (v := .bool true) rfl (OpQ.y (OpY.moveB rfl h45)) ?_
              have p45 := h45; try simp only [decide_eq_true_eq, decide_eq_false_iff_not, beq_iff_eq, bne_iff_ne, beq_eq_false_iff_ne, ne_eq, gt_iff_lt, ge_iff_le, Int.not_lt, Int.not_le, bne_eq_false_iff_eq, Bool.not_eq_true', Bool.not_eq_false', Bool.and_eq_true, Bool.and_eq_false_iff, Bool.or_eq_true, Bool.or_eq_false_iff, Decidable.not_not, List.cons.injEq, and_true] at p45
              refine Run.pass rfl ?_
              refine Run.pass rfl ?_
              refine Run.pass rfl ?_
              refine Run.q (v := .bool true) rfl (OpQ.y (OpY.pure rfl)) ?_
              refine Run.done ?_
              refine Run.cond (b := true) rfl (fun _ => ?_) (fun h => nomatch h)
              refine Run.region ?_
              refine Run.q (v := .int .i64 (mxC incT xs (gq xs k) m)) rfl (OpQ.y (OpY.pure rfl)) ?_
              refine Run.q (v := .int .i64 ((mxC incT xs (gq xs k) m) + 1)) rfl (OpQ.y (OpY.add rfl rfl rfl (by omega) (by omega))) ?_
              refine Run.q (v := .int .i64 ((mxC incT xs (gq xs k) m) + 1)) rfl (OpQ.y (OpY.pure rfl)) ?_
              refine Run.done ?_
              refine Run.seq ?_
              have hD : (mxC incT xs (gq xs k) m) + 1 = dep incT xs k := by rw [dep, hmc]; first | rw [incT, if_pos (by omega)] | rw [incT, if_neg (by omega), Int.add_zero]
              have hX : deepL incT xs (k + 1) = deepL incT xs k ++ [(mxC incT xs (gq xs k) m) + 1] := by rw [hD, deepL_succ]
              refine Run.region ?_
              refine Run.q (v := v) rfl (OpQ.y (OpY.pure rfl)) ?_
              refine Run.q (v := .int .i64 ((mxC incT xs (gq xs k) m) + 1)) rfl (OpQ.y (OpY.pure rfl)) ?_
              refine Run.step rfl (OpStep.buildSlice (us := [.int .i64 ((mxC incT xs (gq xs k) m) + 1)]) Tsl_44 (by decide) (by decide) ⟨rfl, [.int .i64 ((mxC incT xs (gq xs k) m) + 1)], _, rfl, rfl, rfl, rfl⟩ rfl fun b4 => ?_)
              refine Run.step rfl (OpStep.append (H1 := [.own (.slice (some ⟨b4, 0, none⟩) 1 1) 3 1 1 ([.int .i64 ((mxC incT xs (gq xs k) m) + 1)]), .blk b2 94 [.int .i64 (ix xs (k * 3)), .int .i64 (ix xs (k * 3 + 1)), .int .i64 (ix xs (k * 3 + 2))]]) (H2 := [.blk b1 73 [.int .i64 N, .slice (some ⟨b, o, none⟩) n c]]) (v := v) (u := .slice (some ⟨b4, 0, none⟩) 1 1) (n := k) (m := 1) (xs := ints (deepL incT xs k)) (ys := [.int .i64 ((mxC incT xs (gq xs k) m) + 1)]) Tsl_44 (by decide) rfl rfl rfl rfl (fun w hs => hs.slOwn (.head _)) (by simp [Value.oneCell']) (by first | omega | (simp; omega)) (by simp only [maxLen]; first | omega | (simp; omega)) fun av1 hnav1 => ?_)
              refine Run.weak (H' := [.own (.slice (some ⟨b4, 0, none⟩) 1 1) 3 1 1 ([.int .i64 ((mxC incT xs (gq xs k) m) + 1)]), .blk b2 94 [.int .i64 (ix xs (k * 3)), .int .i64 (ix xs (k * 3 + 1)), .int .i64 (ix xs (k * 3 + 2))], .own av1 3 1 (k + 1) (ints (deepL incT xs k ++ [(mxC incT xs (gq xs k) m) + 1])), .blk b1 73 [.int .i64 N, .slice (some ⟨b, o, none⟩) n c]]) (Some'.weak (.take (.take (.takeEq (by simp [ints, List.append_assoc, Nat.add_assoc]) (.take (.nil _)))))) ?_ ⟨_, _, rfl, fun _ => nofun, fun _ => nofun⟩
              refine Run.q (v := av1) rfl (OpQ.y (OpY.pure rfl)) ?_
              refine Run.done ?_
              refine Run.region ?_
              refine Run.q (v := .int .i64 (mxD incT xs k)) rfl (OpQ.y (OpY.pure rfl)) ?_
              refine Run.q (v := .int .i64 ((mxC incT xs (gq xs k) m) + 1)) rfl (OpQ.y (OpY.pure rfl)) ?_
              refine Run.q (v := .int .i64 (max (mxD incT xs k) ((mxC incT xs (gq xs k) m) + 1))) rfl (OpQ.call (vs := [.int .i64 (mxD incT xs k), .int .i64 ((mxC incT xs (gq xs k) m) + 1)]) (caps := []) Tcall_87 rfl rfl (fun w hs => l1Most_spec _ _ w)) ?_
              refine Run.q (v := .int .i64 (max (mxD incT xs k) ((mxC incT xs (gq xs k) m) + 1))) rfl (OpQ.y (OpY.pure rfl)) ?_
              refine Run.done ?_
              refine Run.blockEnd ?_
              refine Run.region ?_
              refine Run.q (v := .int .i64 ((((k : Nat) : Int)) + 1)) rfl (OpQ.y (OpY.add rfl rfl rfl (by omega) (by omega))) ?_
              refine Run.q (v := .int .i64 ((((k : Nat) : Int)) + 1)) rfl (OpQ.y (OpY.pure rfl)) ?_
              refine Run.done ?_
              refine Run.goal ⟨(by repeat (first | exact Same.refl _ _ | refine Same.put rfl ?_ | refine Same.over rfl rfl ?_)), (k + 1, av1), ?_, ?_, ?_, ?_⟩
              · show k + 1 ≤ n; omega
              · show n - (k + 1) < n - k; omega
              · exact ⟨(by first | rfl | (congr 1; omega) | simp), (by show Value.int _ _ = Value.int _ _; rw [hD]; rfl), (by first | rfl | (congr 1; omega) | simp), trivial⟩
              · exact (Some'.weak (.skip (.skip (.takeEq (by first | rw [hX] | rfl) (.takeEq (by first | rw [hX] | rfl) (.nil _))))))
            · refine Run.q (v := .bool false) rfl (OpQ.y (OpY.moveB rfl h45)) ?_
              have p45 := h45; try simp only [decide_eq_true_eq, decide_eq_false_iff_not, beq_iff_eq, bne_iff_ne, beq_eq_false_iff_ne, ne_eq, gt_iff_lt, ge_iff_le, Int.not_lt, Int.not_le, bne_eq_false_iff_eq, Bool.not_eq_true', Bool.not_eq_false', Bool.and_eq_true, Bool.and_eq_false_iff, Bool.or_eq_true, Bool.or_eq_false_iff, Decidable.not_not, List.cons.injEq, and_true] at p45
              refine Run.q (v := .pointer (some ⟨b2, 0, none⟩)) rfl (OpQ.y (OpY.fieldAddr Tfo_94_0 rfl rfl)) ?_
              refine Run.q (v := .int .i64 (ix xs (k * 3))) rfl (OpQ.y (OpY.load1 Tone_3 rfl (Cells.blk (.head _) ⟨rfl, trivial⟩))) ?_
              refine Run.q (v := .bool ((ix xs (k * 3)) == 8)) rfl (OpQ.y (OpY.pure rfl)) ?_
              refine Run.q (v := .bool ((ix xs (k * 3)) == 8)) rfl (OpQ.y (OpY.pure rfl)) ?_
              refine Run.done ?_
              refine Run.cond (b := (ix xs (k * 3)) == 8) rfl (fun h49 => ?_) (fun h49 => ?_)
              · have p49 := h49; try simp only [decide_eq_true_eq, decide_eq_false_iff_not, beq_iff_eq, bne_iff_ne, beq_eq_false_iff_ne, ne_eq, gt_iff_lt, ge_iff_le, Int.not_lt, Int.not_le, bne_eq_false_iff_eq, Bool.not_eq_true', Bool.not_eq_false', Bool.and_eq_true, Bool.and_eq_false_iff, Bool.or_eq_true, Bool.or_eq_false_iff, Decidable.not_not, List.cons.injEq, and_true] at p49
                refine Run.region ?_
                refine Run.q (v := .int .i64 (mxC incT xs (gq xs k) m)) rfl (OpQ.y (OpY.pure rfl)) ?_
                refine Run.q (v := .int .i64 ((mxC incT xs (gq xs k) m) + 1)) rfl (OpQ.y (OpY.add rfl rfl rfl (by omega) (by omega))) ?_
                refine Run.q (v := .int .i64 ((mxC incT xs (gq xs k) m) + 1)) rfl (OpQ.y (OpY.pure rfl)) ?_
                refine Run.done ?_
                refine Run.seq ?_
                have hD : (mxC incT xs (gq xs k) m) + 1 = dep incT xs k := by rw [dep, hmc]; first | rw [incT, if_pos (by omega)] | rw [incT, if_neg (by omega), Int.add_zero]
                have hX : deepL incT xs (k + 1) = deepL incT xs k ++ [(mxC incT xs (gq xs k) m) + 1] := by rw [hD, deepL_succ]
                refine Run.region ?_
                refine Run.q (v := v) rfl (OpQ.y (OpY.pure rfl)) ?_
                refine Run.q (v := .int .i64 ((mxC incT xs (gq xs k) m) + 1)) rfl (OpQ.y (OpY.pure rfl)) ?_
                refine Run.step rfl (OpStep.buildSlice (us := [.int .i64 ((mxC incT xs (gq xs k) m) + 1)]) Tsl_44 (by decide) (by decide) ⟨rfl, [.int .i64 ((mxC incT xs (gq xs k) m) + 1)], _, rfl, rfl, rfl, rfl⟩ rfl fun b5 => ?_)
                refine Run.step rfl (OpStep.append (H1 := [.own (.slice (some ⟨b5, 0, none⟩) 1 1) 3 1 1 ([.int .i64 ((mxC incT xs (gq xs k) m) + 1)]), .blk b2 94 [.int .i64 (ix xs (k * 3)), .int .i64 (ix xs (k * 3 + 1)), .int .i64 (ix xs (k * 3 + 2))]]) (H2 := [.blk b1 73 [.int .i64 N, .slice (some ⟨b, o, none⟩) n c]]) (v := v) (u := .slice (some ⟨b5, 0, none⟩) 1 1) (n := k) (m := 1) (xs := ints (deepL incT xs k)) (ys := [.int .i64 ((mxC incT xs (gq xs k) m) + 1)]) Tsl_44 (by decide) rfl rfl rfl rfl (fun w hs => hs.slOwn (.head _)) (by simp [Value.oneCell']) (by first | omega | (simp; omega)) (by simp only [maxLen]; first | omega | (simp; omega)) fun av2 hnav2 => ?_)
                refine Run.weak (H' := [.own (.slice (some ⟨b5, 0, none⟩) 1 1) 3 1 1 ([.int .i64 ((mxC incT xs (gq xs k) m) + 1)]), .blk b2 94 [.int .i64 (ix xs (k * 3)), .int .i64 (ix xs (k * 3 + 1)), .int .i64 (ix xs (k * 3 + 2))], .own av2 3 1 (k + 1) (ints (deepL incT xs k ++ [(mxC incT xs (gq xs k) m) + 1])), .blk b1 73 [.int .i64 N, .slice (some ⟨b, o, none⟩) n c]]) (Some'.weak (.take (.take (.takeEq (by simp [ints, List.append_assoc, Nat.add_assoc]) (.take (.nil _)))))) ?_ ⟨_, _, rfl, fun _ => nofun, fun _ => nofun⟩
                refine Run.q (v := av2) rfl (OpQ.y (OpY.pure rfl)) ?_
                refine Run.done ?_
                refine Run.region ?_
                refine Run.q (v := .int .i64 (mxD incT xs k)) rfl (OpQ.y (OpY.pure rfl)) ?_
                refine Run.q (v := .int .i64 ((mxC incT xs (gq xs k) m) + 1)) rfl (OpQ.y (OpY.pure rfl)) ?_
                refine Run.q (v := .int .i64 (max (mxD incT xs k) ((mxC incT xs (gq xs k) m) + 1))) rfl (OpQ.call (vs := [.int .i64 (mxD incT xs k), .int .i64 ((mxC incT xs (gq xs k) m) + 1)]) (caps := []) Tcall_87 rfl rfl (fun w hs => l1Most_spec _ _ w)) ?_
                refine Run.q (v := .int .i64 (max (mxD incT xs k) ((mxC incT xs (gq xs k) m) + 1))) rfl (OpQ.y (OpY.pure rfl)) ?_
                refine Run.done ?_
                refine Run.blockEnd ?_
                refine Run.region ?_
                refine Run.q (v := .int .i64 ((((k : Nat) : Int)) + 1)) rfl (OpQ.y (OpY.add rfl rfl rfl (by omega) (by omega))) ?_
                refine Run.q (v := .int .i64 ((((k : Nat) : Int)) + 1)) rfl (OpQ.y (OpY.pure rfl)) ?_
                refine Run.done ?_
                refine Run.goal ⟨(by repeat (first | exact Same.refl _ _ | refine Same.put rfl ?_ | refine Same.over rfl rfl ?_)), (k + 1, av2), ?_, ?_, ?_, ?_⟩
                · show k + 1 ≤ n; omega
                · show n - (k + 1) < n - k; omega
                · exact ⟨(by first | rfl | (congr 1; omega) | simp), (by show Value.int _ _ = Value.int _ _; rw [hD]; rfl), (by first | rfl | (congr 1; omega) | simp), trivial⟩
                · exact (Some'.weak (.skip (.skip (.takeEq (by first | rw [hX] | rfl) (.takeEq (by first | rw [hX] | rfl) (.nil _))))))
              · have p49 := h49; try simp only [decide_eq_true_eq, decide_eq_false_iff_not, beq_iff_eq, bne_iff_ne, beq_eq_false_iff_ne, ne_eq, gt_iff_lt, ge_iff_le, Int.not_lt, Int.not_le, bne_eq_false_iff_eq, Bool.not_eq_true', Bool.not_eq_false', Bool.and_eq_true, Bool.and_eq_false_iff, Bool.or_eq_true, Bool.or_eq_false_iff, Decidable.not_not, List.cons.injEq, and_true] at p49
                refine Run.skip ?_
                refine Run.seq ?_
                have hD : mxC incT xs (gq xs k) m = dep incT xs k := by rw [dep, hmc]; first | rw [incT, if_pos (by omega)] | rw [incT, if_neg (by omega), Int.add_zero]
                have hX : deepL incT xs (k + 1) = deepL incT xs k ++ [mxC incT xs (gq xs k) m] := by rw [hD, deepL_succ]
                refine Run.region ?_
                refine Run.q (v := v) rfl (OpQ.y (OpY.pure rfl)) ?_
                refine Run.q (v := .int .i64 (mxC incT xs (gq xs k) m)) rfl (OpQ.y (OpY.pure rfl)) ?_
                refine Run.step rfl (OpStep.buildSlice (us := [.int .i64 (mxC incT xs (gq xs k) m)]) Tsl_44 (by decide) (by decide) ⟨rfl, [.int .i64 (mxC incT xs (gq xs k) m)], _, rfl, rfl, rfl, rfl⟩ rfl fun b6 => ?_)
                refine Run.step rfl (OpStep.append (H1 := [.own (.slice (some ⟨b6, 0, none⟩) 1 1) 3 1 1 ([.int .i64 (mxC incT xs (gq xs k) m)]), .blk b2 94 [.int .i64 (ix xs (k * 3)), .int .i64 (ix xs (k * 3 + 1)), .int .i64 (ix xs (k * 3 + 2))]]) (H2 := [.blk b1 73 [.int .i64 N, .slice (some ⟨b, o, none⟩) n c]]) (v := v) (u := .slice (some ⟨b6, 0, none⟩) 1 1) (n := k) (m := 1) (xs := ints (deepL incT xs k)) (ys := [.int .i64 (mxC incT xs (gq xs k) m)]) Tsl_44 (by decide) rfl rfl rfl rfl (fun w hs => hs.slOwn (.head _)) (by simp [Value.oneCell']) (by first | omega | (simp; omega)) (by simp only [maxLen]; first | omega | (simp; omega)) fun av3 hnav3 => ?_)
                refine Run.weak (H' := [.own (.slice (some ⟨b6, 0, none⟩) 1 1) 3 1 1 ([.int .i64 (mxC incT xs (gq xs k) m)]), .blk b2 94 [.int .i64 (ix xs (k * 3)), .int .i64 (ix xs (k * 3 + 1)), .int .i64 (ix xs (k * 3 + 2))], .own av3 3 1 (k + 1) (ints (deepL incT xs k ++ [mxC incT xs (gq xs k) m])), .blk b1 73 [.int .i64 N, .slice (some ⟨b, o, none⟩) n c]]) (Some'.weak (.take (.take (.takeEq (by simp [ints, List.append_assoc, Nat.add_assoc]) (.take (.nil _)))))) ?_ ⟨_, _, rfl, fun _ => nofun, fun _ => nofun⟩
                refine Run.q (v := av3) rfl (OpQ.y (OpY.pure rfl)) ?_
                refine Run.done ?_
                refine Run.region ?_
                refine Run.q (v := .int .i64 (mxD incT xs k)) rfl (OpQ.y (OpY.pure rfl)) ?_
                refine Run.q (v := .int .i64 (mxC incT xs (gq xs k) m)) rfl (OpQ.y (OpY.pure rfl)) ?_
                refine Run.q (v := .int .i64 (max (mxD incT xs k) (mxC incT xs (gq xs k) m))) rfl (OpQ.call (vs := [.int .i64 (mxD incT xs k), .int .i64 (mxC incT xs (gq xs k) m)]) (caps := []) Tcall_87 rfl rfl (fun w hs => l1Most_spec _ _ w)) ?_
                refine Run.q (v := .int .i64 (max (mxD incT xs k) (mxC incT xs (gq xs k) m))) rfl (OpQ.y (OpY.pure rfl)) ?_
                refine Run.done ?_
                refine Run.blockEnd ?_
                refine Run.region ?_
                refine Run.q (v := .int .i64 ((((k : Nat) : Int)) + 1)) rfl (OpQ.y (OpY.add rfl rfl rfl (by omega) (by omega))) ?_
                refine Run.q (v := .int .i64 ((((k : Nat) : Int)) + 1)) rfl (OpQ.y (OpY.pure rfl)) ?_
                refine Run.done ?_
                refine Run.goal ⟨(by repeat (first | exact Same.refl _ _ | refine Same.put rfl ?_ | refine Same.over rfl rfl ?_)), (k + 1, av3), ?_, ?_, ?_, ?_⟩
                · show k + 1 ≤ n; omega
                · show n - (k + 1) < n - k; omega
                · exact ⟨(by first | rfl | (congr 1; omega) | simp), (by show Value.int _ _ = Value.int _ _; rw [hD]; rfl), (by first | rfl | (congr 1; omega) | simp), trivial⟩
                · exact (Some'.weak (.skip (.skip (.takeEq (by first | rw [hX] | rfl) (.takeEq (by first | rw [hX] | rfl) (.nil _))))))
      · have p18 := h18; try simp only [decide_eq_true_eq, decide_eq_false_iff_not, beq_iff_eq, bne_iff_ne, beq_eq_false_iff_ne, ne_eq, gt_iff_lt, ge_iff_le, Int.not_lt, Int.not_le, bne_eq_false_iff_eq, Bool.not_eq_true', Bool.not_eq_false', Bool.and_eq_true, Bool.and_eq_false_iff, Bool.or_eq_true, Bool.or_eq_false_iff, Decidable.not_not, List.cons.injEq, and_true] at p18
        have hknk : k = n := by omega
        refine Run.exit rfl ?_
        refine Run.seq ?_
        refine Run.region ?_
        refine Run.q (v := .int .i64 (mxD incT xs k)) rfl (OpQ.y (OpY.pure rfl)) ?_
        refine Run.q (v := .int .i64 (mxD incT xs k)) rfl (OpQ.y (OpY.pure rfl)) ?_
        refine Run.q (v := .bool true) rfl (OpQ.y (OpY.pure rfl)) ?_
        refine Run.done ?_
        refine Run.ret ?_
        refine ⟨.tuple #[.int .i64 (mxD incT xs k), .bool true], [], Out.two rfl rfl rfl, (Some'.weak (.nil _)), ?_⟩
        show _ = _
        rw [hok, if_pos rfl, ← hknk]

end Go.Proofs.Ytgoaoifnckhdlaa
