/- Walks: the components of a coupling graph. -/
import Derived.Test.YtgghmjijjdboeaaComp
import Derived.Test.YtgghmjijjdboeaaSs
import Derived.Test.YtgghmjijjdboeaaProg
set_option linter.unusedSimpArgs false
set_option linter.unusedVariables false
namespace Go.Proofs.Ytgghmjijjdboeaa
open Go Go.RowKit
namespace CoT
theorem Tagg_25 : aggOf Try.prog 25 = some 2 := by kernel_rfl
theorem Tcall_14 : callable Try.prog 14 = true := by kernel_rfl
theorem Tcall_42 : callable Try.prog 42 = true := by kernel_rfl
theorem Tcall_52 : callable Try.prog 52 = true := by kernel_rfl
theorem Tfo_25_0 : fieldOff Try.prog 25 0 = some 0 := by kernel_rfl
theorem Tone_3 : oneOf Try.prog 3 = true := by kernel_rfl
theorem Tsl_27 : sliceOf Try.prog 27 = some (34, 1, 24, [.slice none 0 0]) := by kernel_rfl
theorem Tsl_34 : sliceOf Try.prog 34 = some (3, 1, 8, [.int .i64 0]) := by kernel_rfl
end CoT
open CoT
set_option maxHeartbeats 1000000 in
set_option maxRecDepth 20000 in
theorem ComponentsOf_spec {N : Int} {va : Value} {n : Nat} {xs : List Int} {w : World} (ha : Sl w va 2 n (ints xs)) : Calls Try.prog 21 #[.agg #[.int .i64 N, va]] w (Post No w fun v H => ∃ u ps, ps.map (·.2) = compR N xs n ∧ v = .tuple #[u, .bool (cgOk N xs n)] ∧ H = [.own u 34 1 ps.length (oc ps), .grp 3 1 (gl ps)]) := by
  refine enter (n := 49) (args := [.agg #[.int .i64 N, va]]) Try.func21 rfl rfl (St.empty _ _) ?_
  refine Run.seq ?_
  refine Run.region ?_
  refine Run.step rfl (OpStep.box (us := [.int .i64 N, va]) rfl fun b1 => ?_)
  refine Run.q (v := .slice none 0 0) rfl (OpQ.y (OpY.pure rfl)) ?_
  refine Run.q (v := .bool false) rfl (OpQ.y (OpY.pure rfl)) ?_
  refine Run.done ?_
  refine Run.seq ?_
  refine Run.seq ?_
  refine Run.region ?_
  refine Run.q (v := .agg #[.int .i64 N, va]) rfl (OpQ.y (OpY.loadN (cs := [.int .i64 N, va]) Tagg_25 rfl (Cells.blk (.head _) ⟨rfl, rfl, trivial⟩))) ?_
  refine Run.q (v := .bool (cgOk N xs n)) rfl (OpQ.call (vs := [.agg #[.int .i64 N, va]]) (caps := []) Tcall_14 rfl rfl (fun w hs => IsValidCouplingGraph_spec (hs.sl ha))) ?_
  refine Run.q (v := .bool (!(cgOk N xs n))) rfl (OpQ.y (OpY.pure rfl)) ?_
  refine Run.done ?_
  refine Run.cond (b := !(cgOk N xs n)) rfl (fun h12 => ?_) (fun h12 => ?_)
  · have p12 := h12; try simp only [decide_eq_true_eq, decide_eq_false_iff_not, beq_iff_eq, bne_iff_ne, beq_eq_false_iff_ne, ne_eq, gt_iff_lt, ge_iff_le, Int.not_lt, Int.not_le, bne_eq_false_iff_eq, Bool.not_eq_true', Bool.not_eq_false', Bool.and_eq_true, Bool.and_eq_false_iff, Bool.or_eq_true, Bool.or_eq_false_iff, Decidable.not_not, List.cons.injEq, and_true] at p12
    have hbad : cgOk N xs n = false := by simpa using p12
    refine Run.weak (H' := [.grp 3 1 (gl ([])), .blk b1 25 [.int .i64 N, va]]) (Weak.grpNil _ _) ?_ ⟨_, _, rfl, fun _ => nofun, fun _ => nofun⟩
    refine Run.seq ?_
    refine Run.region ?_
    refine Run.q (v := .slice none 0 0) rfl (OpQ.y (OpY.pure rfl)) ?_
    refine Run.q (v := .bool false) rfl (OpQ.y (OpY.pure rfl)) ?_
    refine Run.done ?_
    refine Run.ret ?_
    refine ⟨.tuple #[.slice none 0 0, .bool false], [.own (.slice none 0 0) 34 1 0 ([]), .grp 3 1 (gl ([]))], Out.two rfl rfl rfl, ((Weak.nilOwn 34 1).trans (Some'.weak (.take (.take (.nil _))))), ?_⟩
    exact ⟨_, [], by rw [compR, hbad]; rfl, by rw [hbad], rfl⟩
  · have p12 := h12; try simp only [decide_eq_true_eq, decide_eq_false_iff_not, beq_iff_eq, bne_iff_ne, beq_eq_false_iff_ne, ne_eq, gt_iff_lt, ge_iff_le, Int.not_lt, Int.not_le, bne_eq_false_iff_eq, Bool.not_eq_true', Bool.not_eq_false', Bool.and_eq_true, Bool.and_eq_false_iff, Bool.or_eq_true, Bool.or_eq_false_iff, Decidable.not_not, List.cons.injEq, and_true] at p12
    have hcg : cgOk N xs n = true := by simpa using p12
    have hcN := cgOk_N hcg
    refine Run.skip ?_
    refine Run.seq ?_
    refine Run.region ?_
    refine Run.step rfl (OpStep.buildSlice (us := []) Tsl_27 (by decide) (by decide) rfl rfl fun b2 => ?_)
    refine Run.step rfl (OpStep.buildSlice (us := []) Tsl_34 (by decide) (by decide) rfl rfl fun b3 => ?_)
    refine Run.q (v := .slice (some ⟨b2, 0, none⟩) 0 0) rfl (OpQ.y (OpY.pure rfl)) ?_
    refine Run.q (v := .slice (some ⟨b3, 0, none⟩) 0 0) rfl (OpQ.y (OpY.pure rfl)) ?_
    refine Run.done ?_
    refine Run.seq ?_
    refine Run.seq ?_
    refine Run.region ?_
    refine Run.q (v := .pointer (some ⟨b1, 0, none⟩)) rfl (OpQ.y (OpY.fieldAddr Tfo_25_0 rfl rfl)) ?_
    refine Run.q (v := .int .i64 N) rfl (OpQ.y (OpY.load1 Tone_3 rfl (Cells.blk (.tail _ (.tail _ (List.Mem.head _))) ⟨rfl, trivial⟩))) ?_
    refine Run.q (v := .int .i64 0) rfl (OpQ.y (OpY.pure rfl)) ?_
    refine Run.done ?_
    refine Run.block ?_
    refine Run.weak (H' := [.grp 3 1 (gl ([])), .own (.slice (some ⟨b3, 0, none⟩) 0 0) 3 1 0 ([]), .own (.slice (some ⟨b2, 0, none⟩) 0 0) 34 1 0 ([]), .blk b1 25 [.int .i64 N, va]]) (Weak.grpNil _ _) ?_ ⟨_, _, rfl, fun _ => nofun, fun _ => nofun⟩
    refine Run.loop (ι := Nat × Value × Value × List (Value × List Int)) [4, 5, 6, 7, 8, 9, 17, 18, 19, 20, 21, 22, 23, 24, 25, 26, 27, 28, 29, 30, 31, 32, 33, 34, 35, 36, 37, 38, 39, 40, 41, 42, 43, 44, 45, 46, 47] (fun ⟨k, vo, vm, ps⟩ => [(4, vo), (5, vm), (17, .int .i64 (((k : Nat) : Int)))]) (fun ⟨k, vo, vm, ps⟩ => [.own vo 34 1 (ps.length) (oc ps), .own vm 3 1 (((compsL xs n N.toNat k).flatten).length) (ints ((compsL xs n N.toNat k).flatten)), .grp 3 1 (gl ps), .blk b1 25 [.int .i64 N, va]]) (fun ⟨k, vo, vm, ps⟩ => k ≤ N.toNat ∧ ps.map (·.2) = compsL xs n N.toNat k) (fun ⟨k, vo, vm, ps⟩ => N.toNat - k) (0, .slice (some ⟨b2, 0, none⟩) 0 0, .slice (some ⟨b3, 0, none⟩) 0 0, []) ?_ ?_ ?_ ?_
    · exact ⟨Nat.zero_le _, rfl⟩
    · exact ⟨rfl, rfl, rfl, trivial⟩
    · exact (((((Weak.front [.grp 3 1 (gl ([])), .own (.slice (some ⟨b3, 0, none⟩) 0 0) 3 1 0 ([]), .own (.slice (some ⟨b2, 0, none⟩) 0 0) 34 1 0 ([])] (.blk b1 25 [.int .i64 N, va]) []).trans (Weak.front [.blk b1 25 [.int .i64 N, va]] (.grp 3 1 (gl ([]))) [.own (.slice (some ⟨b3, 0, none⟩) 0 0) 3 1 0 ([]), .own (.slice (some ⟨b2, 0, none⟩) 0 0) 34 1 0 ([])])).trans (Weak.front [.grp 3 1 (gl ([])), .blk b1 25 [.int .i64 N, va]] (.own (.slice (some ⟨b3, 0, none⟩) 0 0) 3 1 0 ([])) [.own (.slice (some ⟨b2, 0, none⟩) 0 0) 34 1 0 ([])])).trans (Weak.front [.own (.slice (some ⟨b3, 0, none⟩) 0 0) 3 1 0 ([]), .grp 3 1 (gl ([])), .blk b1 25 [.int .i64 N, va]] (.own (.slice (some ⟨b2, 0, none⟩) 0 0) 34 1 0 ([])) [])).trans (Some'.weak (.takeEq (by first | rfl | (rw [hC]; simp [oc]) | (rw [hC]) | simp [gl, oc]) (.takeEq (by first | rfl | (rw [hC]; simp [oc]) | (rw [hC]) | simp [gl, oc]) (.takeEq (by first | rfl | (rw [hC]; simp [oc]) | (rw [hC]) | simp [gl, oc]) (.take (.nil _)))))))
    · rintro ⟨k, vo, vm, ps⟩ fr hinv
      show Run _ _ (over _ _ [(4, vo), (5, vm), (17, .int .i64 (((k : Nat) : Int)))] fr) [.own vo 34 1 (ps.length) (oc ps), .own vm 3 1 (((compsL xs n N.toNat k).flatten).length) (ints ((compsL xs n N.toNat k).flatten)), .grp 3 1 (gl ps), .blk b1 25 [.int .i64 N, va]]
      try dsimp only at hinv
      have hinv0 := hinv
      refine Run.seq ?_
      refine Run.region ?_
      refine Run.q (v := .bool (decide ((((k : Nat) : Int)) < N))) rfl (OpQ.y (OpY.pure rfl)) ?_
      refine Run.done ?_
      refine Run.seq ?_
      refine Run.cond (b := decide ((((k : Nat) : Int)) < N)) rfl (fun h18 => ?_) (fun h18 => ?_)
      · have p18 := h18; try simp only [decide_eq_true_eq, decide_eq_false_iff_not, beq_iff_eq, bne_iff_ne, beq_eq_false_iff_ne, ne_eq, gt_iff_lt, ge_iff_le, Int.not_lt, Int.not_le, bne_eq_false_iff_eq, Bool.not_eq_true', Bool.not_eq_false', Bool.and_eq_true, Bool.and_eq_false_iff, Bool.or_eq_true, Bool.or_eq_false_iff, Decidable.not_not, List.cons.injEq, and_true] at p18
        have hk : k < N.toNat := by omega
        have hpl : ps.length ≤ k := by have h1 := compsL_len xs n N.toNat k; rw [← hinv.2, List.length_map] at h1; exact h1
        have hfl : ((compsL xs n N.toNat k).flatten).length ≤ 64 := by
          have h1 := flat_le (N := N.toNat) (compsL_le (xs := xs) (n := n) (N := N.toNat) (k := k))
          have h2 := compsL_len xs n N.toNat k
          have h3 : (compsL xs n N.toNat k).length * N.toNat ≤ 8 * 8 := Nat.mul_le_mul (by omega) (by omega)
          omega
        refine Run.skip ?_
        refine Run.seq ?_
        refine Run.block ?_
        refine Run.seq ?_
        refine Run.region ?_
        refine Run.q (v := .int .i64 (((k : Nat) : Int))) rfl (OpQ.y (OpY.pure rfl)) ?_
        refine Run.q (v := .int .i64 (((k : Nat) : Int))) rfl (OpQ.y (OpY.pure rfl)) ?_
        refine Run.done ?_
        refine Run.seq ?_
        refine Run.seq ?_
        refine Run.region ?_
        refine Run.q (v := vm) rfl (OpQ.y (OpY.pure rfl)) ?_
        refine Run.q (v := .int .i64 (((k : Nat) : Int))) rfl (OpQ.y (OpY.pure rfl)) ?_
        refine Run.q (v := .bool (!frst xs n N.toNat k)) rfl (OpQ.call (vs := [vm, .int .i64 (((k : Nat) : Int))]) (caps := []) Tcall_52 rfl rfl (fun w hs => (by have h := ContainsInt_spec (x := (k : Int)) (hs.slOwn (.tail _ (List.Mem.head _))); rw [met_has hk] at h; exact h))) ?_
        refine Run.done ?_
        refine Run.cond (b := !frst xs n N.toNat k) rfl (fun h22 => ?_) (fun h22 => ?_)
        · have p22 := h22; try simp only [decide_eq_true_eq, decide_eq_false_iff_not, beq_iff_eq, bne_iff_ne, beq_eq_false_iff_ne, ne_eq, gt_iff_lt, ge_iff_le, Int.not_lt, Int.not_le, bne_eq_false_iff_eq, Bool.not_eq_true', Bool.not_eq_false', Bool.and_eq_true, Bool.and_eq_false_iff, Bool.or_eq_true, Bool.or_eq_false_iff, Decidable.not_not, List.cons.injEq, and_true] at p22
          have hf : frst xs n N.toNat k = false := by simpa using p22
          have hC : compsL xs n N.toNat (k + 1) = compsL xs n N.toNat k := by rw [compsL, if_neg (by rw [hf]; decide), List.append_nil]
          refine Run.exit rfl ?_
          refine Run.region ?_
          refine Run.q (v := .int .i64 ((((k : Nat) : Int)) + 1)) rfl (OpQ.y (OpY.add rfl rfl rfl (by omega) (by omega))) ?_
          refine Run.q (v := .int .i64 ((((k : Nat) : Int)) + 1)) rfl (OpQ.y (OpY.pure rfl)) ?_
          refine Run.done ?_
          refine Run.goal ⟨(by repeat (first | exact Same.refl _ _ | refine Same.put rfl ?_ | refine Same.over rfl rfl ?_)), (k + 1, vo, vm, ps), ?_, ?_, ?_, ?_⟩
          · exact ⟨hk, by first | (rw [hC]; exact hinv0.2) | (rw [hC, List.map_append, hinv0.2]; rfl)⟩
          · show N.toNat - (k + 1) < N.toNat - k; omega
          · exact ⟨(by first | rfl | (congr 1; omega) | simp), (by first | rfl | (congr 1; omega) | simp), (by first | rfl | (congr 1; omega) | simp), trivial⟩
          · exact (((((Weak.front [.own vo 34 1 (ps.length) (oc ps), .own vm 3 1 (((compsL xs n N.toNat k).flatten).length) (ints ((compsL xs n N.toNat k).flatten)), .grp 3 1 (gl ps)] (.blk b1 25 [.int .i64 N, va]) []).trans (Weak.front [.blk b1 25 [.int .i64 N, va], .own vo 34 1 (ps.length) (oc ps), .own vm 3 1 (((compsL xs n N.toNat k).flatten).length) (ints ((compsL xs n N.toNat k).flatten))] (.grp 3 1 (gl ps)) [])).trans (Weak.front [.grp 3 1 (gl ps), .blk b1 25 [.int .i64 N, va], .own vo 34 1 (ps.length) (oc ps)] (.own vm 3 1 (((compsL xs n N.toNat k).flatten).length) (ints ((compsL xs n N.toNat k).flatten))) [])).trans (Weak.front [.own vm 3 1 (((compsL xs n N.toNat k).flatten).length) (ints ((compsL xs n N.toNat k).flatten)), .grp 3 1 (gl ps), .blk b1 25 [.int .i64 N, va]] (.own vo 34 1 (ps.length) (oc ps)) [])).trans (Some'.weak (.takeEq (by first | rfl | (rw [hC]; simp [oc]) | (rw [hC]) | simp [gl, oc]) (.takeEq (by first | rfl | (rw [hC]; simp [oc]) | (rw [hC]) | simp [gl, oc]) (.takeEq (by first | rfl | (rw [hC]; simp [oc]) | (rw [hC]) | simp [gl, oc]) (.take (.nil _)))))))
        · have p22 := h22; try simp only [decide_eq_true_eq, decide_eq_false_iff_not, beq_iff_eq, bne_iff_ne, beq_eq_false_iff_ne, ne_eq, gt_iff_lt, ge_iff_le, Int.not_lt, Int.not_le, bne_eq_false_iff_eq, Bool.not_eq_true', Bool.not_eq_false', Bool.and_eq_true, Bool.and_eq_false_iff, Bool.or_eq_true, Bool.or_eq_false_iff, Decidable.not_not, List.cons.injEq, and_true] at p22
          have hf : frst xs n N.toNat k = true := by simpa using p22
          refine Run.skip ?_
          refine Run.seq ?_
          refine Run.region ?_
          refine Run.step rfl (OpStep.buildSlice (us := []) Tsl_34 (by decide) (by decide) rfl rfl fun b4 => ?_)
          refine Run.q (v := .slice (some ⟨b4, 0, none⟩) 0 0) rfl (OpQ.y (OpY.pure rfl)) ?_
          refine Run.done ?_
          refine Run.seq ?_
          refine Run.seq ?_
          refine Run.region ?_
          refine Run.q (v := .agg #[.int .i64 N, va]) rfl (OpQ.y (OpY.loadN (cs := [.int .i64 N, va]) Tagg_25 rfl (Cells.blk (.tail _ (.tail _ (.tail _ (.tail _ (List.Mem.head _))))) ⟨rfl, rfl, trivial⟩))) ?_
          refine Run.q (v := .int .i64 (((k : Nat) : Int))) rfl (OpQ.y (OpY.pure rfl)) ?_
          refine Run.step rfl (OpStep.call (vs := [.agg #[.int .i64 N, va], .int .i64 (((k : Nat) : Int))]) (caps := []) Tcall_42 rfl rfl (fun w hs => distances_spec hcN ⟨by omega, by omega⟩ (cgOk_edges hcg) (hs.sl ha)) ?_)
          rintro ud _ ⟨hd, rfl⟩
          show Run _ _ (putF _ _ _ ud) [.own ud 3 1 (N.toNat) (ints (distL xs n N.toNat k)), .own (.slice (some ⟨b4, 0, none⟩) 0 0) 3 1 0 ([]), .own vo 34 1 (ps.length) (oc ps), .own vm 3 1 (((compsL xs n N.toNat k).flatten).length) (ints ((compsL xs n N.toNat k).flatten)), .grp 3 1 (gl ps), .blk b1 25 [.int .i64 N, va]]
          have hdl : (distL xs n N.toNat k).length = N.toNat := hd.len
          refine Run.formOwn (.head _) (fun A_ud1 c_ud1 hv hcapc_ud1 hmaxc_ud1 => ?_) (fun _ _ _ => ⟨nofun, nofun, nofun⟩)
          subst hv
          refine Run.q (v := .int .i64 (((N.toNat : Nat) : Int))) rfl (OpQ.y (OpY.len Tsl_34 rfl)) ?_
          refine Run.q (v := .int .i64 0) rfl (OpQ.y (OpY.pure rfl)) ?_
          refine Run.done ?_
          refine Run.block ?_
          refine Run.loop (ι := Nat × Value) [7, 8, 9, 28, 29, 30, 31, 32, 33, 34, 35, 36, 37, 38, 39] (fun ⟨m, vp⟩ => [(7, vp), (28, .int .i64 (((m : Nat) : Int)))]) (fun ⟨m, vp⟩ => [.own vp 3 1 ((filterL (rch xs n N.toNat k) m).length) (ints (filterL (rch xs n N.toNat k) m)), .own (.slice A_ud1 (N.toNat) c_ud1) 3 1 (N.toNat) (ints (distL xs n N.toNat k)), .own vo 34 1 (ps.length) (oc ps), .own vm 3 1 (((compsL xs n N.toNat k).flatten).length) (ints ((compsL xs n N.toNat k).flatten)), .grp 3 1 (gl ps), .blk b1 25 [.int .i64 N, va]]) (fun ⟨m, vp⟩ => m ≤ N.toNat) (fun ⟨m, vp⟩ => N.toNat - m) (0, .slice (some ⟨b4, 0, none⟩) 0 0) ?_ ?_ ?_ ?_
          · exact Nat.zero_le _
          · exact ⟨rfl, rfl, trivial⟩
          · exact (((((((Weak.front [.own (.slice A_ud1 (N.toNat) c_ud1) 3 1 (N.toNat) (ints (distL xs n N.toNat k)), .own (.slice (some ⟨b4, 0, none⟩) 0 0) 3 1 0 ([]), .own vo 34 1 (ps.length) (oc ps), .own vm 3 1 (((compsL xs n N.toNat k).flatten).length) (ints ((compsL xs n N.toNat k).flatten)), .grp 3 1 (gl ps)] (.blk b1 25 [.int .i64 N, va]) []).trans (Weak.front [.blk b1 25 [.int .i64 N, va], .own (.slice A_ud1 (N.toNat) c_ud1) 3 1 (N.toNat) (ints (distL xs n N.toNat k)), .own (.slice (some ⟨b4, 0, none⟩) 0 0) 3 1 0 ([]), .own vo 34 1 (ps.length) (oc ps), .own vm 3 1 (((compsL xs n N.toNat k).flatten).length) (ints ((compsL xs n N.toNat k).flatten))] (.grp 3 1 (gl ps)) [])).trans (Weak.front [.grp 3 1 (gl ps), .blk b1 25 [.int .i64 N, va], .own (.slice A_ud1 (N.toNat) c_ud1) 3 1 (N.toNat) (ints (distL xs n N.toNat k)), .own (.slice (some ⟨b4, 0, none⟩) 0 0) 3 1 0 ([]), .own vo 34 1 (ps.length) (oc ps)] (.own vm 3 1 (((compsL xs n N.toNat k).flatten).length) (ints ((compsL xs n N.toNat k).flatten))) [])).trans (Weak.front [.own vm 3 1 (((compsL xs n N.toNat k).flatten).length) (ints ((compsL xs n N.toNat k).flatten)), .grp 3 1 (gl ps), .blk b1 25 [.int .i64 N, va], .own (.slice A_ud1 (N.toNat) c_ud1) 3 1 (N.toNat) (ints (distL xs n N.toNat k)), .own (.slice (some ⟨b4, 0, none⟩) 0 0) 3 1 0 ([])] (.own vo 34 1 (ps.length) (oc ps)) [])).trans (Weak.front [.own vo 34 1 (ps.length) (oc ps), .own vm 3 1 (((compsL xs n N.toNat k).flatten).length) (ints ((compsL xs n N.toNat k).flatten)), .grp 3 1 (gl ps), .blk b1 25 [.int .i64 N, va]] (.own (.slice A_ud1 (N.toNat) c_ud1) 3 1 (N.toNat) (ints (distL xs n N.toNat k))) [.own (.slice (some ⟨b4, 0, none⟩) 0 0) 3 1 0 ([])])).trans (Weak.front [.own (.slice A_ud1 (N.toNat) c_ud1) 3 1 (N.toNat) (ints (distL xs n N.toNat k)), .own vo 34 1 (ps.length) (oc ps), .own vm 3 1 (((compsL xs n N.toNat k).flatten).length) (ints ((compsL xs n N.toNat k).flatten)), .grp 3 1 (gl ps), .blk b1 25 [.int .i64 N, va]] (.own (.slice (some ⟨b4, 0, none⟩) 0 0) 3 1 0 ([])) [])).trans (Some'.weak (.takeEq (by first | rfl | rw [hX]) (.take (.take (.take (.take (.take (.nil _)))))))))
          · rintro ⟨m, vp⟩ fr hinv
            show Run _ _ (over _ _ [(7, vp), (28, .int .i64 (((m : Nat) : Int)))] fr) [.own vp 3 1 ((filterL (rch xs n N.toNat k) m).length) (ints (filterL (rch xs n N.toNat k) m)), .own (.slice A_ud1 (N.toNat) c_ud1) 3 1 (N.toNat) (ints (distL xs n N.toNat k)), .own vo 34 1 (ps.length) (oc ps), .own vm 3 1 (((compsL xs n N.toNat k).flatten).length) (ints ((compsL xs n N.toNat k).flatten)), .grp 3 1 (gl ps), .blk b1 25 [.int .i64 N, va]]
            try dsimp only at hinv
            refine Run.seq ?_
            refine Run.region ?_
            refine Run.q (v := .bool (decide ((((m : Nat) : Int)) < (((N.toNat : Nat) : Int))))) rfl (OpQ.y (OpY.pure rfl)) ?_
            refine Run.done ?_
            refine Run.seq ?_
            refine Run.cond (b := decide ((((m : Nat) : Int)) < (((N.toNat : Nat) : Int)))) rfl (fun h29 => ?_) (fun h29 => ?_)
            · have p29 := h29; try simp only [decide_eq_true_eq, decide_eq_false_iff_not, beq_iff_eq, bne_iff_ne, beq_eq_false_iff_ne, ne_eq, gt_iff_lt, ge_iff_le, Int.not_lt, Int.not_le, bne_eq_false_iff_eq, Bool.not_eq_true', Bool.not_eq_false', Bool.and_eq_true, Bool.and_eq_false_iff, Bool.or_eq_true, Bool.or_eq_false_iff, Decidable.not_not, List.cons.injEq, and_true] at p29
              have hltm : m < N.toNat := by omega
              have hfm := filterL_le (rch xs n N.toNat k) m
              refine Run.openOwn (.tail _ (List.Mem.head _)) (by omega) (fun gd cd hvgd hcapgd _ => ?_) (fun _ _ _ => ⟨nofun, nofun, nofun⟩)
              injection hvgd with hAgd _ hcgd; subst hAgd; subst hcgd
              refine Run.skip ?_
              refine Run.seq ?_
              refine Run.block ?_
              refine Run.seq ?_
              refine Run.region ?_
              refine Run.q (v := .int .i64 (((m : Nat) : Int))) rfl (OpQ.y (OpY.pure rfl)) ?_
              refine Run.q (v := .pointer (some ⟨gd, m, none⟩)) rfl (OpQ.y (OpY.index (kk := m) Tsl_34 rfl rfl (by omega) (by omega) (by first | rfl | omega))) ?_
              refine Run.q (v := .int .i64 (ix (distL xs n N.toNat k) (m))) rfl (OpQ.y (OpY.load1 Tone_3 rfl (Cells.own0 (.tail _ (List.Mem.head _)) (pre1 (by omega))))) ?_
              refine Run.q (v := .int .i64 (((m : Nat) : Int))) rfl (OpQ.y (OpY.pure rfl)) ?_
              refine Run.q (v := .int .i64 (ix (distL xs n N.toNat k) (m))) rfl (OpQ.y (OpY.pure rfl)) ?_
              refine Run.done ?_
              refine Run.seq ?_
              refine Run.region ?_
              refine Run.q (v := .int .i64 (ix (distL xs n N.toNat k) (m))) rfl (OpQ.y (OpY.pure rfl)) ?_
              refine Run.q (v := .bool (decide ((ix (distL xs n N.toNat k) (m)) ≥ 0))) rfl (OpQ.y (OpY.pure rfl)) ?_
              refine Run.done ?_
              refine Run.cond (b := decide ((ix (distL xs n N.toNat k) (m)) ≥ 0)) rfl (fun h34 => ?_) (fun h34 => ?_)
              · have p34 := h34; try simp only [decide_eq_true_eq, decide_eq_false_iff_not, beq_iff_eq, bne_iff_ne, beq_eq_false_iff_ne, ne_eq, gt_iff_lt, ge_iff_le, Int.not_lt, Int.not_le, bne_eq_false_iff_eq, Bool.not_eq_true', Bool.not_eq_false', Bool.and_eq_true, Bool.and_eq_false_iff, Bool.or_eq_true, Bool.or_eq_false_iff, Decidable.not_not, List.cons.injEq, and_true] at p34
                have hX : filterL (rch xs n N.toNat k) (m + 1) = filterL (rch xs n N.toNat k) m ++ [(m : Int)] := by rw [filterL, if_pos (by rw [rch, decide_eq_true_eq]; omega)]
                refine Run.region ?_
                refine Run.q (v := vp) rfl (OpQ.y (OpY.pure rfl)) ?_
                refine Run.q (v := .int .i64 (((m : Nat) : Int))) rfl (OpQ.y (OpY.pure rfl)) ?_
                refine Run.step rfl (OpStep.buildSlice (us := [.int .i64 (((m : Nat) : Int))]) Tsl_34 (by decide) (by decide) ⟨rfl, [.int .i64 (((m : Nat) : Int))], _, rfl, rfl, rfl, rfl⟩ rfl fun b5 => ?_)
                refine Run.step rfl (OpStep.append (H1 := [.own (.slice (some ⟨b5, 0, none⟩) 1 1) 3 1 1 ([.int .i64 (((m : Nat) : Int))])]) (H2 := [.own (.slice (some ⟨gd, 0, none⟩) (N.toNat) c_ud1) 3 1 (N.toNat) (ints (distL xs n N.toNat k)), .own vo 34 1 (ps.length) (oc ps), .own vm 3 1 (((compsL xs n N.toNat k).flatten).length) (ints ((compsL xs n N.toNat k).flatten)), .grp 3 1 (gl ps), .blk b1 25 [.int .i64 N, va]]) (v := vp) (u := .slice (some ⟨b5, 0, none⟩) 1 1) (n := (filterL (rch xs n N.toNat k) m).length) (m := 1) (xs := ints (filterL (rch xs n N.toNat k) m)) (ys := [.int .i64 (((m : Nat) : Int))]) Tsl_34 (by decide) rfl rfl rfl rfl (fun w hs => hs.slOwn (.head _)) (by simp [Value.oneCell']) (by omega) (by simp only [maxLen]; omega) fun av1 hnav1 => ?_)
                refine Run.weak (H' := [.own (.slice (some ⟨b5, 0, none⟩) 1 1) 3 1 1 ([.int .i64 (((m : Nat) : Int))]), .own av1 3 1 ((filterL (rch xs n N.toNat k) (m + 1)).length) (ints (filterL (rch xs n N.toNat k) (m + 1))), .own (.slice (some ⟨gd, 0, none⟩) (N.toNat) c_ud1) 3 1 (N.toNat) (ints (distL xs n N.toNat k)), .own vo 34 1 (ps.length) (oc ps), .own vm 3 1 (((compsL xs n N.toNat k).flatten).length) (ints ((compsL xs n N.toNat k).flatten)), .grp 3 1 (gl ps), .blk b1 25 [.int .i64 N, va]]) (Some'.weak (.take (.takeEq (by rw [hX]; simp [ints]) (.take (.take (.take (.take (.take (.nil _))))))))) ?_ ⟨_, _, rfl, fun _ => nofun, fun _ => nofun⟩
                refine Run.q (v := av1) rfl (OpQ.y (OpY.pure rfl)) ?_
                refine Run.done ?_
                refine Run.blockEnd ?_
                refine Run.region ?_
                refine Run.q (v := .int .i64 ((((m : Nat) : Int)) + 1)) rfl (OpQ.y (OpY.add rfl rfl rfl (by omega) (by omega))) ?_
                refine Run.q (v := .int .i64 ((((m : Nat) : Int)) + 1)) rfl (OpQ.y (OpY.pure rfl)) ?_
                refine Run.done ?_
                refine Run.goal ⟨(by repeat (first | exact Same.refl _ _ | refine Same.put rfl ?_ | refine Same.over rfl rfl ?_)), (m + 1, av1), ?_, ?_, ?_, ?_⟩
                · exact hltm
                · show N.toNat - (m + 1) < N.toNat - m; omega
                · exact ⟨(by first | rfl | (congr 1; omega) | simp), (by first | rfl | (congr 1; omega) | simp), trivial⟩
                · exact (((((((Weak.front [.own (.slice (some ⟨b5, 0, none⟩) 1 1) 3 1 1 ([.int .i64 (((m : Nat) : Int))]), .own av1 3 1 ((filterL (rch xs n N.toNat k) (m + 1)).length) (ints (filterL (rch xs n N.toNat k) (m + 1))), .own (.slice (some ⟨gd, 0, none⟩) (N.toNat) c_ud1) 3 1 (N.toNat) (ints (distL xs n N.toNat k)), .own vo 34 1 (ps.length) (oc ps), .own vm 3 1 (((compsL xs n N.toNat k).flatten).length) (ints ((compsL xs n N.toNat k).flatten)), .grp 3 1 (gl ps)] (.blk b1 25 [.int .i64 N, va]) []).trans (Weak.front [.blk b1 25 [.int .i64 N, va], .own (.slice (some ⟨b5, 0, none⟩) 1 1) 3 1 1 ([.int .i64 (((m : Nat) : Int))]), .own av1 3 1 ((filterL (rch xs n N.toNat k) (m + 1)).length) (ints (filterL (rch xs n N.toNat k) (m + 1))), .own (.slice (some ⟨gd, 0, none⟩) (N.toNat) c_ud1) 3 1 (N.toNat) (ints (distL xs n N.toNat k)), .own vo 34 1 (ps.length) (oc ps), .own vm 3 1 (((compsL xs n N.toNat k).flatten).length) (ints ((compsL xs n N.toNat k).flatten))] (.grp 3 1 (gl ps)) [])).trans (Weak.front [.grp 3 1 (gl ps), .blk b1 25 [.int .i64 N, va], .own (.slice (some ⟨b5, 0, none⟩) 1 1) 3 1 1 ([.int .i64 (((m : Nat) : Int))]), .own av1 3 1 ((filterL (rch xs n N.toNat k) (m + 1)).length) (ints (filterL (rch xs n N.toNat k) (m + 1))), .own (.slice (some ⟨gd, 0, none⟩) (N.toNat) c_ud1) 3 1 (N.toNat) (ints (distL xs n N.toNat k)), .own vo 34 1 (ps.length) (oc ps)] (.own vm 3 1 (((compsL xs n N.toNat k).flatten).length) (ints ((compsL xs n N.toNat k).flatten))) [])).trans (Weak.front [.own vm 3 1 (((compsL xs n N.toNat k).flatten).length) (ints ((compsL xs n N.toNat k).flatten)), .grp 3 1 (gl ps), .blk b1 25 [.int .i64 N, va], .own (.slice (some ⟨b5, 0, none⟩) 1 1) 3 1 1 ([.int .i64 (((m : Nat) : Int))]), .own av1 3 1 ((filterL (rch xs n N.toNat k) (m + 1)).length) (ints (filterL (rch xs n N.toNat k) (m + 1))), .own (.slice (some ⟨gd, 0, none⟩) (N.toNat) c_ud1) 3 1 (N.toNat) (ints (distL xs n N.toNat k))] (.own vo 34 1 (ps.length) (oc ps)) [])).trans (Weak.front [.own vo 34 1 (ps.length) (oc ps), .own vm 3 1 (((compsL xs n N.toNat k).flatten).length) (ints ((compsL xs n N.toNat k).flatten)), .grp 3 1 (gl ps), .blk b1 25 [.int .i64 N, va], .own (.slice (some ⟨b5, 0, none⟩) 1 1) 3 1 1 ([.int .i64 (((m : Nat) : Int))]), .own av1 3 1 ((filterL (rch xs n N.toNat k) (m + 1)).length) (ints (filterL (rch xs n N.toNat k) (m + 1)))] (.own (.slice (some ⟨gd, 0, none⟩) (N.toNat) c_ud1) 3 1 (N.toNat) (ints (distL xs n N.toNat k))) [])).trans (Weak.front [.own (.slice (some ⟨gd, 0, none⟩) (N.toNat) c_ud1) 3 1 (N.toNat) (ints (distL xs n N.toNat k)), .own vo 34 1 (ps.length) (oc ps), .own vm 3 1 (((compsL xs n N.toNat k).flatten).length) (ints ((compsL xs n N.toNat k).flatten)), .grp 3 1 (gl ps), .blk b1 25 [.int .i64 N, va], .own (.slice (some ⟨b5, 0, none⟩) 1 1) 3 1 1 ([.int .i64 (((m : Nat) : Int))])] (.own av1 3 1 ((filterL (rch xs n N.toNat k) (m + 1)).length) (ints (filterL (rch xs n N.toNat k) (m + 1)))) [])).trans (Some'.weak (.takeEq (by first | rfl | rw [hX]) (.takeEq (by first | rfl | rw [hX]) (.takeEq (by first | rfl | rw [hX]) (.takeEq (by first | rfl | rw [hX]) (.takeEq (by first | rfl | rw [hX]) (.take (.nil _)))))))))
              · have p34 := h34; try simp only [decide_eq_true_eq, decide_eq_false_iff_not, beq_iff_eq, bne_iff_ne, beq_eq_false_iff_ne, ne_eq, gt_iff_lt, ge_iff_le, Int.not_lt, Int.not_le, bne_eq_false_iff_eq, Bool.not_eq_true', Bool.not_eq_false', Bool.and_eq_true, Bool.and_eq_false_iff, Bool.or_eq_true, Bool.or_eq_false_iff, Decidable.not_not, List.cons.injEq, and_true] at p34
                have hX : filterL (rch xs n N.toNat k) (m + 1) = filterL (rch xs n N.toNat k) m := by rw [filterL, if_neg (by rw [rch, decide_eq_true_eq]; omega), List.append_nil]
                refine Run.skip ?_
                refine Run.blockEnd ?_
                refine Run.region ?_
                refine Run.q (v := .int .i64 ((((m : Nat) : Int)) + 1)) rfl (OpQ.y (OpY.add rfl rfl rfl (by omega) (by omega))) ?_
                refine Run.q (v := .int .i64 ((((m : Nat) : Int)) + 1)) rfl (OpQ.y (OpY.pure rfl)) ?_
                refine Run.done ?_
                refine Run.goal ⟨(by repeat (first | exact Same.refl _ _ | refine Same.put rfl ?_ | refine Same.over rfl rfl ?_)), (m + 1, vp), ?_, ?_, ?_, ?_⟩
                · exact hltm
                · show N.toNat - (m + 1) < N.toNat - m; omega
                · exact ⟨(by first | rfl | (congr 1; omega) | simp), (by first | rfl | (congr 1; omega) | simp), trivial⟩
                · exact (((((((Weak.front [.own vp 3 1 ((filterL (rch xs n N.toNat k) m).length) (ints (filterL (rch xs n N.toNat k) m)), .own (.slice (some ⟨gd, 0, none⟩) (N.toNat) c_ud1) 3 1 (N.toNat) (ints (distL xs n N.toNat k)), .own vo 34 1 (ps.length) (oc ps), .own vm 3 1 (((compsL xs n N.toNat k).flatten).length) (ints ((compsL xs n N.toNat k).flatten)), .grp 3 1 (gl ps)] (.blk b1 25 [.int .i64 N, va]) []).trans (Weak.front [.blk b1 25 [.int .i64 N, va], .own vp 3 1 ((filterL (rch xs n N.toNat k) m).length) (ints (filterL (rch xs n N.toNat k) m)), .own (.slice (some ⟨gd, 0, none⟩) (N.toNat) c_ud1) 3 1 (N.toNat) (ints (distL xs n N.toNat k)), .own vo 34 1 (ps.length) (oc ps), .own vm 3 1 (((compsL xs n N.toNat k).flatten).length) (ints ((compsL xs n N.toNat k).flatten))] (.grp 3 1 (gl ps)) [])).trans (Weak.front [.grp 3 1 (gl ps), .blk b1 25 [.int .i64 N, va], .own vp 3 1 ((filterL (rch xs n N.toNat k) m).length) (ints (filterL (rch xs n N.toNat k) m)), .own (.slice (some ⟨gd, 0, none⟩) (N.toNat) c_ud1) 3 1 (N.toNat) (ints (distL xs n N.toNat k)), .own vo 34 1 (ps.length) (oc ps)] (.own vm 3 1 (((compsL xs n N.toNat k).flatten).length) (ints ((compsL xs n N.toNat k).flatten))) [])).trans (Weak.front [.own vm 3 1 (((compsL xs n N.toNat k).flatten).length) (ints ((compsL xs n N.toNat k).flatten)), .grp 3 1 (gl ps), .blk b1 25 [.int .i64 N, va], .own vp 3 1 ((filterL (rch xs n N.toNat k) m).length) (ints (filterL (rch xs n N.toNat k) m)), .own (.slice (some ⟨gd, 0, none⟩) (N.toNat) c_ud1) 3 1 (N.toNat) (ints (distL xs n N.toNat k))] (.own vo 34 1 (ps.length) (oc ps)) [])).trans (Weak.front [.own vo 34 1 (ps.length) (oc ps), .own vm 3 1 (((compsL xs n N.toNat k).flatten).length) (ints ((compsL xs n N.toNat k).flatten)), .grp 3 1 (gl ps), .blk b1 25 [.int .i64 N, va], .own vp 3 1 ((filterL (rch xs n N.toNat k) m).length) (ints (filterL (rch xs n N.toNat k) m))] (.own (.slice (some ⟨gd, 0, none⟩) (N.toNat) c_ud1) 3 1 (N.toNat) (ints (distL xs n N.toNat k))) [])).trans (Weak.front [.own (.slice (some ⟨gd, 0, none⟩) (N.toNat) c_ud1) 3 1 (N.toNat) (ints (distL xs n N.toNat k)), .own vo 34 1 (ps.length) (oc ps), .own vm 3 1 (((compsL xs n N.toNat k).flatten).length) (ints ((compsL xs n N.toNat k).flatten)), .grp 3 1 (gl ps), .blk b1 25 [.int .i64 N, va]] (.own vp 3 1 ((filterL (rch xs n N.toNat k) m).length) (ints (filterL (rch xs n N.toNat k) m))) [])).trans (Some'.weak (.takeEq (by first | rfl | rw [hX]) (.takeEq (by first | rfl | rw [hX]) (.takeEq (by first | rfl | rw [hX]) (.takeEq (by first | rfl | rw [hX]) (.takeEq (by first | rfl | rw [hX]) (.take (.nil _)))))))))
            · have p29 := h29; try simp only [decide_eq_true_eq, decide_eq_false_iff_not, beq_iff_eq, bne_iff_ne, beq_eq_false_iff_ne, ne_eq, gt_iff_lt, ge_iff_le, Int.not_lt, Int.not_le, bne_eq_false_iff_eq, Bool.not_eq_true', Bool.not_eq_false', Bool.and_eq_true, Bool.and_eq_false_iff, Bool.or_eq_true, Bool.or_eq_false_iff, Decidable.not_not, List.cons.injEq, and_true] at p29
              have hm : m = N.toNat := by omega
              have hfm := filterL_le (rch xs n N.toNat k) m
              refine Run.exit rfl ?_
              refine Run.region ?_
              refine Run.q (v := vo) rfl (OpQ.y (OpY.pure rfl)) ?_
              refine Run.q (v := vp) rfl (OpQ.y (OpY.pure rfl)) ?_
              refine Run.formOwn (.head _) (fun A_vp1 c_vp1 hv hcapc_vp1 hmaxc_vp1 => ?_) (fun _ _ _ => ⟨nofun, nofun, nofun⟩)
              subst hv
              refine Run.step rfl (OpStep.buildSlice (us := [.slice A_vp1 ((filterL (rch xs n N.toNat k) m).length) c_vp1]) Tsl_27 (by decide) (by decide) ⟨rfl, [.slice A_vp1 ((filterL (rch xs n N.toNat k) m).length) c_vp1], _, rfl, rfl, rfl, rfl⟩ rfl fun b6 => ?_)
              refine Run.step rfl (OpStep.append (H1 := [.own (.slice (some ⟨b6, 0, none⟩) 1 1) 34 1 1 ([.slice A_vp1 ((filterL (rch xs n N.toNat k) m).length) c_vp1]), .own (.slice A_vp1 ((filterL (rch xs n N.toNat k) m).length) c_vp1) 3 1 ((filterL (rch xs n N.toNat k) m).length) (ints (filterL (rch xs n N.toNat k) m)), .own (.slice A_ud1 (N.toNat) c_ud1) 3 1 (N.toNat) (ints (distL xs n N.toNat k))]) (H2 := [.own vm 3 1 (((compsL xs n N.toNat k).flatten).length) (ints ((compsL xs n N.toNat k).flatten)), .grp 3 1 (gl ps), .blk b1 25 [.int .i64 N, va]]) (v := vo) (u := .slice (some ⟨b6, 0, none⟩) 1 1) (n := ps.length) (m := 1) (xs := oc ps) (ys := [.slice A_vp1 ((filterL (rch xs n N.toNat k) m).length) c_vp1]) Tsl_27 (by decide) rfl rfl rfl rfl (fun w hs => hs.slOwn (.head _)) (by simp [Value.oneCell']) (by omega) (by simp only [maxLen]; omega) fun av2 hnav2 => ?_)
              refine Run.weak (H' := [.own (.slice (some ⟨b6, 0, none⟩) 1 1) 34 1 1 ([.slice A_vp1 ((filterL (rch xs n N.toNat k) m).length) c_vp1]), .own (.slice A_vp1 ((filterL (rch xs n N.toNat k) m).length) c_vp1) 3 1 ((filterL (rch xs n N.toNat k) m).length) (ints (filterL (rch xs n N.toNat k) m)), .own (.slice A_ud1 (N.toNat) c_ud1) 3 1 (N.toNat) (ints (distL xs n N.toNat k)), .own av2 34 1 ((ps ++ [((.slice A_vp1 ((filterL (rch xs n N.toNat k) m).length) c_vp1 : Value), filterL (rch xs n N.toNat k) m)]).length) (oc (ps ++ [((.slice A_vp1 ((filterL (rch xs n N.toNat k) m).length) c_vp1 : Value), filterL (rch xs n N.toNat k) m)])), .own vm 3 1 (((compsL xs n N.toNat k).flatten).length) (ints ((compsL xs n N.toNat k).flatten)), .grp 3 1 (gl ps), .blk b1 25 [.int .i64 N, va]]) (Some'.weak (.take (.take (.take (.takeEq (by simp [oc]) (.take (.take (.take (.nil _))))))))) ?_ ⟨_, _, rfl, fun _ => nofun, fun _ => nofun⟩
              refine Run.q (v := vm) rfl (OpQ.y (OpY.pure rfl)) ?_
              refine Run.q (v := .slice A_vp1 ((filterL (rch xs n N.toNat k) m).length) c_vp1) rfl (OpQ.y (OpY.pure rfl)) ?_
              refine Run.step rfl (OpStep.append (H1 := [.own (.slice (some ⟨b6, 0, none⟩) 1 1) 34 1 1 ([.slice A_vp1 ((filterL (rch xs n N.toNat k) m).length) c_vp1]), .own (.slice A_vp1 ((filterL (rch xs n N.toNat k) m).length) c_vp1) 3 1 ((filterL (rch xs n N.toNat k) m).length) (ints (filterL (rch xs n N.toNat k) m)), .own (.slice A_ud1 (N.toNat) c_ud1) 3 1 (N.toNat) (ints (distL xs n N.toNat k)), .own av2 34 1 ((ps ++ [((.slice A_vp1 ((filterL (rch xs n N.toNat k) m).length) c_vp1 : Value), filterL (rch xs n N.toNat k) m)]).length) (oc (ps ++ [((.slice A_vp1 ((filterL (rch xs n N.toNat k) m).length) c_vp1 : Value), filterL (rch xs n N.toNat k) m)]))]) (H2 := [.grp 3 1 (gl ps), .blk b1 25 [.int .i64 N, va]]) (v := vm) (u := .slice A_vp1 ((filterL (rch xs n N.toNat k) m).length) c_vp1) (n := ((compsL xs n N.toNat k).flatten).length) (m := (filterL (rch xs n N.toNat k) m).length) (xs := ints ((compsL xs n N.toNat k).flatten)) (ys := ints (filterL (rch xs n N.toNat k) m)) Tsl_34 (by decide) rfl rfl rfl rfl (fun w hs => hs.slOwn (.tail _ (List.Mem.head _))) (by exact ints_all _) (by omega) (by simp only [maxLen]; omega) fun av3 hnav3 => ?_)
              refine Run.weak (H' := [.own (.slice (some ⟨b6, 0, none⟩) 1 1) 34 1 1 ([.slice A_vp1 ((filterL (rch xs n N.toNat k) m).length) c_vp1]), .own (.slice A_vp1 ((filterL (rch xs n N.toNat k) m).length) c_vp1) 3 1 ((filterL (rch xs n N.toNat k) m).length) (ints (filterL (rch xs n N.toNat k) m)), .own (.slice A_ud1 (N.toNat) c_ud1) 3 1 (N.toNat) (ints (distL xs n N.toNat k)), .own av2 34 1 ((ps ++ [((.slice A_vp1 ((filterL (rch xs n N.toNat k) m).length) c_vp1 : Value), filterL (rch xs n N.toNat k) m)]).length) (oc (ps ++ [((.slice A_vp1 ((filterL (rch xs n N.toNat k) m).length) c_vp1 : Value), filterL (rch xs n N.toNat k) m)])), .own av3 3 1 (((compsL xs n N.toNat k).flatten ++ filterL (rch xs n N.toNat k) m).length) (ints ((compsL xs n N.toNat k).flatten ++ filterL (rch xs n N.toNat k) m)), .grp 3 1 (gl ps), .blk b1 25 [.int .i64 N, va]]) (Some'.weak (.take (.take (.take (.take (.takeEq (by simp [ints]) (.take (.take (.nil _))))))))) ?_ ⟨_, _, rfl, fun _ => nofun, fun _ => nofun⟩
              have hC : compsL xs n N.toNat (k + 1) = compsL xs n N.toNat k ++ [filterL (rch xs n N.toNat k) m] := by rw [compsL, if_pos hf, hm]; rfl
              refine Run.weak (H' := [.grp 3 1 (gl (ps ++ [((.slice A_vp1 ((filterL (rch xs n N.toNat k) m).length) c_vp1 : Value), filterL (rch xs n N.toNat k) m)])), .own (.slice (some ⟨b6, 0, none⟩) 1 1) 34 1 1 ([.slice A_vp1 ((filterL (rch xs n N.toNat k) m).length) c_vp1]), .own (.slice A_ud1 (N.toNat) c_ud1) 3 1 (N.toNat) (ints (distL xs n N.toNat k)), .own av2 34 1 ((ps ++ [((.slice A_vp1 ((filterL (rch xs n N.toNat k) m).length) c_vp1 : Value), filterL (rch xs n N.toNat k) m)]).length) (oc (ps ++ [((.slice A_vp1 ((filterL (rch xs n N.toNat k) m).length) c_vp1 : Value), filterL (rch xs n N.toNat k) m)])), .own av3 3 1 (((compsL xs n N.toNat k).flatten ++ filterL (rch xs n N.toNat k) m).length) (ints ((compsL xs n N.toNat k).flatten ++ filterL (rch xs n N.toNat k) m)), .blk b1 25 [.int .i64 N, va]]) (((Weak.front [.own (.slice (some ⟨b6, 0, none⟩) 1 1) 34 1 1 ([.slice A_vp1 ((filterL (rch xs n N.toNat k) m).length) c_vp1]), .own (.slice A_vp1 ((filterL (rch xs n N.toNat k) m).length) c_vp1) 3 1 ((filterL (rch xs n N.toNat k) m).length) (ints (filterL (rch xs n N.toNat k) m)), .own (.slice A_ud1 (N.toNat) c_ud1) 3 1 (N.toNat) (ints (distL xs n N.toNat k)), .own av2 34 1 ((ps ++ [((.slice A_vp1 ((filterL (rch xs n N.toNat k) m).length) c_vp1 : Value), filterL (rch xs n N.toNat k) m)]).length) (oc (ps ++ [((.slice A_vp1 ((filterL (rch xs n N.toNat k) m).length) c_vp1 : Value), filterL (rch xs n N.toNat k) m)])), .own av3 3 1 (((compsL xs n N.toNat k).flatten ++ filterL (rch xs n N.toNat k) m).length) (ints ((compsL xs n N.toNat k).flatten ++ filterL (rch xs n N.toNat k) m))] (.grp 3 1 (gl ps)) [.blk b1 25 [.int .i64 N, va]]).trans (Weak.front [.grp 3 1 (gl ps), .own (.slice (some ⟨b6, 0, none⟩) 1 1) 34 1 1 ([.slice A_vp1 ((filterL (rch xs n N.toNat k) m).length) c_vp1])] (.own (.slice A_vp1 ((filterL (rch xs n N.toNat k) m).length) c_vp1) 3 1 ((filterL (rch xs n N.toNat k) m).length) (ints (filterL (rch xs n N.toNat k) m))) [.own (.slice A_ud1 (N.toNat) c_ud1) 3 1 (N.toNat) (ints (distL xs n N.toNat k)), .own av2 34 1 ((ps ++ [((.slice A_vp1 ((filterL (rch xs n N.toNat k) m).length) c_vp1 : Value), filterL (rch xs n N.toNat k) m)]).length) (oc (ps ++ [((.slice A_vp1 ((filterL (rch xs n N.toNat k) m).length) c_vp1 : Value), filterL (rch xs n N.toNat k) m)])), .own av3 3 1 (((compsL xs n N.toNat k).flatten ++ filterL (rch xs n N.toNat k) m).length) (ints ((compsL xs n N.toNat k).flatten ++ filterL (rch xs n N.toNat k) m)), .blk b1 25 [.int .i64 N, va]])).trans Weak.grpSnoc) ?_ ⟨_, _, rfl, fun _ => nofun, fun _ => nofun⟩
              refine Run.q (v := av2) rfl (OpQ.y (OpY.pure rfl)) ?_
              refine Run.q (v := av3) rfl (OpQ.y (OpY.pure rfl)) ?_
              refine Run.done ?_
              refine Run.blockEnd ?_
              refine Run.region ?_
              refine Run.q (v := .int .i64 ((((k : Nat) : Int)) + 1)) rfl (OpQ.y (OpY.add rfl rfl rfl (by omega) (by omega))) ?_
              refine Run.q (v := .int .i64 ((((k : Nat) : Int)) + 1)) rfl (OpQ.y (OpY.pure rfl)) ?_
              refine Run.done ?_
              refine Run.goal ⟨(by repeat (first | exact Same.refl _ _ | refine Same.put rfl ?_ | refine Same.over rfl rfl ?_)), (k + 1, av2, av3, ps ++ [((.slice A_vp1 ((filterL (rch xs n N.toNat k) m).length) c_vp1 : Value), filterL (rch xs n N.toNat k) m)]), ?_, ?_, ?_, ?_⟩
              · exact ⟨hk, by first | (rw [hC]; exact hinv0.2) | (rw [hC, List.map_append, hinv0.2]; rfl)⟩
              · show N.toNat - (k + 1) < N.toNat - k; omega
              · exact ⟨(by first | rfl | (congr 1; omega) | simp), (by first | rfl | (congr 1; omega) | simp), (by first | rfl | (congr 1; omega) | simp), trivial⟩
              · exact (((((Weak.front [.grp 3 1 (gl (ps ++ [((.slice A_vp1 ((filterL (rch xs n N.toNat k) m).length) c_vp1 : Value), filterL (rch xs n N.toNat k) m)])), .own (.slice (some ⟨b6, 0, none⟩) 1 1) 34 1 1 ([.slice A_vp1 ((filterL (rch xs n N.toNat k) m).length) c_vp1]), .own (.slice A_ud1 (N.toNat) c_ud1) 3 1 (N.toNat) (ints (distL xs n N.toNat k)), .own av2 34 1 ((ps ++ [((.slice A_vp1 ((filterL (rch xs n N.toNat k) m).length) c_vp1 : Value), filterL (rch xs n N.toNat k) m)]).length) (oc (ps ++ [((.slice A_vp1 ((filterL (rch xs n N.toNat k) m).length) c_vp1 : Value), filterL (rch xs n N.toNat k) m)])), .own av3 3 1 (((compsL xs n N.toNat k).flatten ++ filterL (rch xs n N.toNat k) m).length) (ints ((compsL xs n N.toNat k).flatten ++ filterL (rch xs n N.toNat k) m))] (.blk b1 25 [.int .i64 N, va]) []).trans (Weak.front [.blk b1 25 [.int .i64 N, va]] (.grp 3 1 (gl (ps ++ [((.slice A_vp1 ((filterL (rch xs n N.toNat k) m).length) c_vp1 : Value), filterL (rch xs n N.toNat k) m)]))) [.own (.slice (some ⟨b6, 0, none⟩) 1 1) 34 1 1 ([.slice A_vp1 ((filterL (rch xs n N.toNat k) m).length) c_vp1]), .own (.slice A_ud1 (N.toNat) c_ud1) 3 1 (N.toNat) (ints (distL xs n N.toNat k)), .own av2 34 1 ((ps ++ [((.slice A_vp1 ((filterL (rch xs n N.toNat k) m).length) c_vp1 : Value), filterL (rch xs n N.toNat k) m)]).length) (oc (ps ++ [((.slice A_vp1 ((filterL (rch xs n N.toNat k) m).length) c_vp1 : Value), filterL (rch xs n N.toNat k) m)])), .own av3 3 1 (((compsL xs n N.toNat k).flatten ++ filterL (rch xs n N.toNat k) m).length) (ints ((compsL xs n N.toNat k).flatten ++ filterL (rch xs n N.toNat k) m))])).trans (Weak.front [.grp 3 1 (gl (ps ++ [((.slice A_vp1 ((filterL (rch xs n N.toNat k) m).length) c_vp1 : Value), filterL (rch xs n N.toNat k) m)])), .blk b1 25 [.int .i64 N, va], .own (.slice (some ⟨b6, 0, none⟩) 1 1) 34 1 1 ([.slice A_vp1 ((filterL (rch xs n N.toNat k) m).length) c_vp1]), .own (.slice A_ud1 (N.toNat) c_ud1) 3 1 (N.toNat) (ints (distL xs n N.toNat k)), .own av2 34 1 ((ps ++ [((.slice A_vp1 ((filterL (rch xs n N.toNat k) m).length) c_vp1 : Value), filterL (rch xs n N.toNat k) m)]).length) (oc (ps ++ [((.slice A_vp1 ((filterL (rch xs n N.toNat k) m).length) c_vp1 : Value), filterL (rch xs n N.toNat k) m)]))] (.own av3 3 1 (((compsL xs n N.toNat k).flatten ++ filterL (rch xs n N.toNat k) m).length) (ints ((compsL xs n N.toNat k).flatten ++ filterL (rch xs n N.toNat k) m))) [])).trans (Weak.front [.own av3 3 1 (((compsL xs n N.toNat k).flatten ++ filterL (rch xs n N.toNat k) m).length) (ints ((compsL xs n N.toNat k).flatten ++ filterL (rch xs n N.toNat k) m)), .grp 3 1 (gl (ps ++ [((.slice A_vp1 ((filterL (rch xs n N.toNat k) m).length) c_vp1 : Value), filterL (rch xs n N.toNat k) m)])), .blk b1 25 [.int .i64 N, va], .own (.slice (some ⟨b6, 0, none⟩) 1 1) 34 1 1 ([.slice A_vp1 ((filterL (rch xs n N.toNat k) m).length) c_vp1]), .own (.slice A_ud1 (N.toNat) c_ud1) 3 1 (N.toNat) (ints (distL xs n N.toNat k))] (.own av2 34 1 ((ps ++ [((.slice A_vp1 ((filterL (rch xs n N.toNat k) m).length) c_vp1 : Value), filterL (rch xs n N.toNat k) m)]).length) (oc (ps ++ [((.slice A_vp1 ((filterL (rch xs n N.toNat k) m).length) c_vp1 : Value), filterL (rch xs n N.toNat k) m)]))) [])).trans (Some'.weak (.takeEq (by first | rfl | (rw [hC]; simp [oc]) | (rw [hC]) | simp [gl, oc]) (.takeEq (by first | rfl | (rw [hC]; simp [oc]) | (rw [hC]) | simp [gl, oc]) (.takeEq (by first | rfl | (rw [hC]; simp [oc]) | (rw [hC]) | simp [gl, oc]) (.take (.nil _)))))))
      · have p18 := h18; try simp only [decide_eq_true_eq, decide_eq_false_iff_not, beq_iff_eq, bne_iff_ne, beq_eq_false_iff_ne, ne_eq, gt_iff_lt, ge_iff_le, Int.not_lt, Int.not_le, bne_eq_false_iff_eq, Bool.not_eq_true', Bool.not_eq_false', Bool.and_eq_true, Bool.and_eq_false_iff, Bool.or_eq_true, Bool.or_eq_false_iff, Decidable.not_not, List.cons.injEq, and_true] at p18
        have hkn : k = N.toNat := by omega
        have hpc : ps.map (·.2) = compR N xs n := by
          have h := hinv.2
          rw [hkn] at h
          rw [compR, if_pos hcg]; exact h
        refine Run.exit rfl ?_
        refine Run.seq ?_
        refine Run.region ?_
        refine Run.q (v := vo) rfl (OpQ.y (OpY.pure rfl)) ?_
        refine Run.q (v := vo) rfl (OpQ.y (OpY.pure rfl)) ?_
        refine Run.q (v := .bool true) rfl (OpQ.y (OpY.pure rfl)) ?_
        refine Run.done ?_
        refine Run.ret ?_
        refine ⟨.tuple #[vo, .bool true], [.own vo 34 1 (ps.length) (oc ps), .grp 3 1 (gl ps)], Out.two rfl rfl rfl, (Some'.weak (.take (.skip (.take (.nil _))))), ?_⟩
        exact ⟨_, _, hpc, by rw [hcg], rfl⟩

end Go.Proofs.Ytgghmjijjdboeaa
