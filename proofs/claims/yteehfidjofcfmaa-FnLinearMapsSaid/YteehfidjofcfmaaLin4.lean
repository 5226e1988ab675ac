/- Walks: the identity, additions and codes of linear maps. -/
import Derived.Test.YteehfidjofcfmaaLin3
import Derived.Test.YteehfidjofcfmaaGf2
import Derived.Test.YteehfidjofcfmaaProg
set_option linter.unusedSimpArgs false
set_option linter.unusedVariables false
namespace Go.Proofs.Yteehfidjofcfmaa
open Go Go.RowKit
namespace Lin4T
theorem Tagg_28 : aggOf Try.prog 28 = some 1 := by kernel_rfl
theorem Tfo_28_0 : fieldOff Try.prog 28 0 = some 0 := by kernel_rfl
theorem Tint_96 : Try.prog.underlying 96 = some (.int .u64) := by kernel_rfl
theorem Tone_22 : oneOf Try.prog 22 = true := by kernel_rfl
theorem Tsize_22 : (Try.prog.info? 22).map (·.size) = some 1 := by kernel_rfl
theorem Tsize_28 : (Try.prog.info? 28).map (·.size) = some 1 := by kernel_rfl
theorem Tsl_22 : sliceOf Try.prog 22 = some (3, 1, 8, [.int .i64 0]) := by kernel_rfl
theorem Tsome_3 : (Try.prog.underlying 3).isSome = true := by kernel_rfl
theorem Tzero_28 : zeroOf Try.prog 28 = some [.slice none 0 0] := by kernel_rfl
end Lin4T
open Lin4T

theorem idL_succ (n : Nat) : idL (n + 1) = idL n ++ [2 ^ n] := by simp [idL, List.range_succ]
theorem ints_idL (n q : Nat) (h : q = 2 ^ n) : ints (nl (idL n)) ++ [.int .i64 (q : Int)] = ints (nl (idL (n + 1))) := by
  rw [idL_succ, ← h]; simp [nl, ints]

set_option maxHeartbeats 1000000 in
set_option maxRecDepth 20000 in
theorem l12Identity_spec {n : Nat} (hn : n ≤ 5) (w : World) : Calls Try.prog 70 #[.int .i64 (n : Int)] w (Post No w fun v H => ∃ u, v = .agg #[u] ∧ H = [.own u 3 1 n (ints (nl (idL n)))]) := by
  refine enter (n := 19) (args := [.int .i64 (((n : Nat) : Int))]) Try.func70 rfl rfl (St.empty _ _) ?_
  refine Run.seq ?_
  refine Run.region ?_
  refine Run.step rfl (OpStep.alloc (zs := [.slice none 0 0]) Tzero_28 fun b1 => ?_)
  refine Run.done ?_
  refine Run.seq ?_
  refine Run.region ?_
  refine Run.step rfl (OpStep.alloc (zs := [.slice none 0 0]) Tzero_28 fun b2 => ?_)
  refine Run.done ?_
  refine Run.seq ?_
  refine Run.seq ?_
  refine Run.region ?_
  refine Run.q (v := .int .i64 0) rfl (OpQ.y (OpY.pure rfl)) ?_
  refine Run.done ?_
  refine Run.block ?_
  refine Run.weak (H' := [.own (.slice none 0 0) 3 1 0 ([]), .blk b2 28 [.slice none 0 0], .blk b1 28 [.slice none 0 0]]) (Weak.nilOwn _ _) ?_ ⟨_, _, rfl, fun _ => nofun, fun _ => nofun⟩
  refine Run.loop (ι := Nat × Value) [4, 5, 6, 7, 8, 9, 10, 11, 12, 13, 14, 15, 16, 17] (fun ⟨i, v⟩ => [(4, .int .i64 (((i : Nat) : Int)))]) (fun ⟨i, v⟩ => [.own v 3 1 i (ints (nl (idL i))), .blk b2 28 [v], .blk b1 28 [.slice none 0 0]]) (fun ⟨i, v⟩ => i ≤ n) (fun ⟨i, v⟩ => n - i) (0, .slice none 0 0) ?_ ?_ ?_ ?_
  · exact Nat.zero_le _
  · exact ⟨rfl, trivial⟩
  · exact ((((Weak.front [.own (.slice none 0 0) 3 1 0 ([]), .blk b2 28 [.slice none 0 0]] (.blk b1 28 [.slice none 0 0]) []).trans (Weak.front [.blk b1 28 [.slice none 0 0], .own (.slice none 0 0) 3 1 0 ([])] (.blk b2 28 [.slice none 0 0]) [])).trans (Weak.front [.blk b2 28 [.slice none 0 0], .blk b1 28 [.slice none 0 0]] (.own (.slice none 0 0) 3 1 0 ([])) [])).trans (Some'.weak (.takeEq (by first | rfl | simp [idL, nl, ints]) (.takeEq (by first | rfl | simp [idL, nl, ints]) (.take (.nil _))))))
  · rintro ⟨i, v⟩ fr hinv
    show Run _ _ (over _ _ [(4, .int .i64 (((i : Nat) : Int)))] fr) [.own v 3 1 i (ints (nl (idL i))), .blk b2 28 [v], .blk b1 28 [.slice none 0 0]]
    try dsimp only at hinv
    refine Run.seq ?_
    refine Run.seq ?_
    refine Run.region ?_
    refine Run.q (v := .int .i64 (((i : Nat) : Int))) rfl (OpQ.y (OpY.pure rfl)) ?_
    refine Run.q (v := .int .i64 (((n : Nat) : Int))) rfl (OpQ.y (OpY.pure rfl)) ?_
    refine Run.q (v := .bool (decide ((((i : Nat) : Int)) < (((n : Nat) : Int))))) rfl (OpQ.y (OpY.pure rfl)) ?_
    refine Run.done ?_
    refine Run.cond (b := decide ((((i : Nat) : Int)) < (((n : Nat) : Int)))) rfl (fun h7 => ?_) (fun h7 => ?_)
    · have p7 := h7; try simp only [bs] at p7
      have hlt : i < n := by omega
      have hp5 := pow5 (n := i) (by omega)
      obtain ⟨q, hq⟩ : ∃ q : Nat, q = 2 ^ i := ⟨_, rfl⟩
      rw [← hq] at hp5
      refine Run.skip ?_
      refine Run.seq ?_
      refine Run.block ?_
      refine Run.region ?_
      refine Run.q (v := .pointer (some ⟨b2, 0, none⟩)) rfl (OpQ.y (OpY.fieldAddr Tfo_28_0 rfl rfl)) ?_
      refine Run.q (v := v) rfl (OpQ.y (OpY.load1 Tone_22 rfl (Cells.blk (.tail _ (List.Mem.head _)) ⟨rfl, trivial⟩))) ?_
      refine Run.q (v := .int .i64 (((i : Nat) : Int))) rfl (OpQ.y (OpY.pure rfl)) ?_
      refine Run.q (v := .int .u64 (((i : Nat) : Int))) rfl (OpQ.y (OpY.convIntEq Tsome_3 Tint_96 rfl (by (rw [IntKind.wrap_u64]; omega)))) ?_
      refine Run.q (v := .int .i64 (((q : Nat) : Int))) rfl (OpQ.y (OpY.shlOne rfl rfl rfl (by omega) hq)) ?_
      refine Run.step rfl (OpStep.buildSlice (us := [.int .i64 (((q : Nat) : Int))]) Tsl_22 (by decide) (by decide) ⟨rfl, [.int .i64 (((q : Nat) : Int))], _, rfl, rfl, rfl, rfl⟩ rfl fun b3 => ?_)
      refine Run.step rfl (OpStep.append (H1 := [.own (.slice (some ⟨b3, 0, none⟩) 1 1) 3 1 1 ([.int .i64 (((q : Nat) : Int))])]) (H2 := [.blk b2 28 [v], .blk b1 28 [.slice none 0 0]]) (v := v) (u := .slice (some ⟨b3, 0, none⟩) 1 1) (n := i) (m := 1) (xs := ints (nl (idL i))) (ys := [.int .i64 (((q : Nat) : Int))]) Tsl_22 (by decide) rfl rfl rfl rfl (fun w hs => hs.slOwn (.head _)) (by simp [Value.oneCell']) (by omega) (by simp only [maxLen]; omega) fun av1 hnav1 => ?_)
      refine Run.weak (H' := [.own (.slice (some ⟨b3, 0, none⟩) 1 1) 3 1 1 ([.int .i64 (((q : Nat) : Int))]), .own av1 3 1 (i + 1) (ints (nl (idL (i + 1)))), .blk b2 28 [v], .blk b1 28 [.slice none 0 0]]) (Some'.weak (.take (.takeEq (by rw [ints_idL _ _ hq]) (.take (.take (.nil _)))))) ?_ ⟨_, _, rfl, fun _ => nofun, fun _ => nofun⟩
      refine Run.q (v := .pointer (some ⟨b2, 0, none⟩)) rfl (OpQ.y (OpY.fieldAddr Tfo_28_0 rfl rfl)) ?_
      refine Run.formOwn (.tail _ (List.Mem.head _)) (fun A_av11 c_av11 hv hcapc_av11 hmaxc_av11 => ?_) (fun _ _ _ => ⟨nofun, nofun, nofun⟩)
      subst hv
      refine Run.step rfl (OpStep.storeAll (us := [.slice A_av11 (i + 1) c_av11]) Tsize_22 rfl rfl rfl (.there _ (.there _ (.here _))) rfl ?_)
      refine Run.done ?_
      refine Run.blockEnd ?_
      refine Run.region ?_
      refine Run.q (v := .int .i64 (((i : Nat) : Int))) rfl (OpQ.y (OpY.pure rfl)) ?_
      refine Run.q (v := .int .i64 ((((i : Nat) : Int)) + 1)) rfl (OpQ.y (OpY.add rfl rfl rfl (by omega) (by omega))) ?_
      refine Run.q (v := .int .i64 ((((i : Nat) : Int)) + 1)) rfl (OpQ.y (OpY.pure rfl)) ?_
      refine Run.done ?_
      refine Run.goal ⟨(by repeat (first | exact Same.refl _ _ | refine Same.put rfl ?_ | refine Same.over rfl rfl ?_)), (i + 1, .slice A_av11 (i + 1) c_av11), ?_, ?_, ?_, ?_⟩
      · exact hlt
      · show n - (i + 1) < n - i; omega
      · exact ⟨(by first | rfl | (congr 1; omega) | simp), trivial⟩
      · exact ((((Weak.front [.own (.slice (some ⟨b3, 0, none⟩) 1 1) 3 1 1 ([.int .i64 (((q : Nat) : Int))]), .own (.slice A_av11 (i + 1) c_av11) 3 1 (i + 1) (ints (nl (idL (i + 1)))), .blk b2 28 [.slice A_av11 (i + 1) c_av11]] (.blk b1 28 [.slice none 0 0]) []).trans (Weak.front [.blk b1 28 [.slice none 0 0], .own (.slice (some ⟨b3, 0, none⟩) 1 1) 3 1 1 ([.int .i64 (((q : Nat) : Int))]), .own (.slice A_av11 (i + 1) c_av11) 3 1 (i + 1) (ints (nl (idL (i + 1))))] (.blk b2 28 [.slice A_av11 (i + 1) c_av11]) [])).trans (Weak.front [.blk b2 28 [.slice A_av11 (i + 1) c_av11], .blk b1 28 [.slice none 0 0], .own (.slice (some ⟨b3, 0, none⟩) 1 1) 3 1 1 ([.int .i64 (((q : Nat) : Int))])] (.own (.slice A_av11 (i + 1) c_av11) 3 1 (i + 1) (ints (nl (idL (i + 1))))) [])).trans (Some'.weak (.takeEq (by first | rfl | simp [idL, nl, ints]) (.takeEq (by first | rfl | simp [idL, nl, ints]) (.take (.nil _))))))
    · have p7 := h7; try simp only [bs] at p7
      have hin : i = n := by omega
      refine Run.exit rfl ?_
      refine Run.seq ?_
      refine Run.region ?_
      refine Run.q (v := .agg #[v]) rfl (OpQ.y (OpY.loadN (cs := [v]) Tagg_28 rfl (Cells.blk (.tail _ (List.Mem.head _)) ⟨rfl, trivial⟩))) ?_
      refine Run.formOwn (.head _) (fun A_v1 c_v1 hv hcapc_v1 hmaxc_v1 => ?_) (fun _ _ _ => ⟨nofun, nofun, nofun⟩)
      subst hv
      refine Run.step rfl (OpStep.storeAll (us := [.slice A_v1 i c_v1]) Tsize_28 rfl rfl rfl (.there _ (.there _ (.here _))) rfl ?_)
      refine Run.done ?_
      refine Run.ret ?_
      refine ⟨.agg #[.slice A_v1 i c_v1], [.own (.slice A_v1 i c_v1) 3 1 n (ints (nl (idL n)))], Out.cell1 (cs := [.slice A_v1 i c_v1]) rfl Tagg_28 rfl (Cells.blk (.tail _ (.tail _ (List.Mem.head _))) ⟨rfl, trivial⟩), (Some'.weak (.takeEq (by first | rfl | (rw [hin])) (.nil _))), ?_⟩
      exact ⟨_, rfl, rfl⟩

set_option maxHeartbeats 1000000 in
set_option maxRecDepth 20000 in
theorem identityLinear_spec {n : Nat} (hn : n ≤ 5) (w : World) : Calls Try.prog 67 #[.int .i64 (n : Int)] w (Post No w fun v H => ∃ u, v = .agg #[u] ∧ H = [.own u 3 1 n (ints (nl (idL n)))]) := by
  refine enter (n := 19) (args := [.int .i64 (((n : Nat) : Int))]) Try.func67 rfl rfl (St.empty _ _) ?_
  refine Run.seq ?_
  refine Run.region ?_
  refine Run.step rfl (OpStep.alloc (zs := [.slice none 0 0]) Tzero_28 fun b1 => ?_)
  refine Run.done ?_
  refine Run.seq ?_
  refine Run.region ?_
  refine Run.q (v := .agg #[.slice none 0 0]) rfl (OpQ.y (OpY.build (cs := [.slice none 0 0]) (by kernel_rfl))) ?_
  refine Run.step rfl (OpStep.alloc (zs := [.slice none 0 0]) Tzero_28 fun b2 => ?_)
  refine Run.step rfl (OpStep.storeAll (us := [.slice none 0 0]) Tsize_28 rfl rfl rfl (.here _) rfl ?_)
  refine Run.done ?_
  refine Run.seq ?_
  refine Run.seq ?_
  refine Run.region ?_
  refine Run.q (v := .int .i64 (((n : Nat) : Int))) rfl (OpQ.y (OpY.pure rfl)) ?_
  refine Run.q (v := .int .i64 0) rfl (OpQ.y (OpY.pure rfl)) ?_
  refine Run.done ?_
  refine Run.block ?_
  refine Run.weak (H' := [.own (.slice none 0 0) 3 1 0 ([]), .blk b2 28 [.slice none 0 0], .blk b1 28 [.slice none 0 0]]) (Weak.nilOwn _ _) ?_ ⟨_, _, rfl, fun _ => nofun, fun _ => nofun⟩
  refine Run.loop (ι := Nat × Value) [4, 7, 8, 9, 10, 11, 12, 13, 14, 15, 16, 17] (fun ⟨i, v⟩ => [(7, .int .i64 (((i : Nat) : Int)))]) (fun ⟨i, v⟩ => [.own v 3 1 i (ints (nl (idL i))), .blk b2 28 [v], .blk b1 28 [.slice none 0 0]]) (fun ⟨i, v⟩ => i ≤ n) (fun ⟨i, v⟩ => n - i) (0, .slice none 0 0) ?_ ?_ ?_ ?_
  · exact Nat.zero_le _
  · exact ⟨rfl, trivial⟩
  · exact ((((Weak.front [.own (.slice none 0 0) 3 1 0 ([]), .blk b2 28 [.slice none 0 0]] (.blk b1 28 [.slice none 0 0]) []).trans (Weak.front [.blk b1 28 [.slice none 0 0], .own (.slice none 0 0) 3 1 0 ([])] (.blk b2 28 [.slice none 0 0]) [])).trans (Weak.front [.blk b2 28 [.slice none 0 0], .blk b1 28 [.slice none 0 0]] (.own (.slice none 0 0) 3 1 0 ([])) [])).trans (Some'.weak (.takeEq (by first | rfl | simp [idL, nl, ints]) (.takeEq (by first | rfl | simp [idL, nl, ints]) (.take (.nil _))))))
  · rintro ⟨i, v⟩ fr hinv
    show Run _ _ (over _ _ [(7, .int .i64 (((i : Nat) : Int)))] fr) [.own v 3 1 i (ints (nl (idL i))), .blk b2 28 [v], .blk b1 28 [.slice none 0 0]]
    try dsimp only at hinv
    refine Run.seq ?_
    refine Run.region ?_
    refine Run.q (v := .bool (decide ((((i : Nat) : Int)) < (((n : Nat) : Int))))) rfl (OpQ.y (OpY.pure rfl)) ?_
    refine Run.done ?_
    refine Run.seq ?_
    refine Run.cond (b := decide ((((i : Nat) : Int)) < (((n : Nat) : Int)))) rfl (fun h8 => ?_) (fun h8 => ?_)
    · have p8 := h8; try simp only [bs] at p8
      have hlt : i < n := by omega
      have hp5 := pow5 (n := i) (by omega)
      obtain ⟨q, hq⟩ : ∃ q : Nat, q = 2 ^ i := ⟨_, rfl⟩
      rw [← hq] at hp5
      refine Run.skip ?_
      refine Run.seq ?_
      refine Run.block ?_
      refine Run.seq ?_
      refine Run.region ?_
      refine Run.q (v := .int .i64 (((i : Nat) : Int))) rfl (OpQ.y (OpY.pure rfl)) ?_
      refine Run.q (v := .int .i64 (((i : Nat) : Int))) rfl (OpQ.y (OpY.pure rfl)) ?_
      refine Run.done ?_
      refine Run.lastlyB [7] [.blk b2 28 [v]] (by kernel_rfl) ?_
      refine DL.takeP (i := 0) (v := .pointer (some ⟨b2, 0, none⟩)) rfl (by kernel_rfl) (by kernel_rfl) (by kernel_rfl) (fun _ _ _ h => h) rfl (fun _ => OpY.fieldAddr Tfo_28_0 rfl rfl) ?_
      refine DL.take (i := 1) (v := v) rfl (by kernel_rfl) (by kernel_rfl) (by kernel_rfl) (by kernel_rfl) (fun _ _ _ h => h) (Some'.weak (.skip (.take (.nil _)))) rfl (OpY.load1 Tone_22 rfl (Cells.blk (.head _) ⟨rfl, trivial⟩)) ?_
      refine DL.takeP (i := 2) (v := .int .i64 (((i : Nat) : Int))) rfl (by kernel_rfl) (by kernel_rfl) (by kernel_rfl) (fun _ _ _ h => h) rfl (fun _ => OpY.pure rfl) ?_
      refine DL.takeP (i := 3) (v := .int .i64 (((q : Nat) : Int))) rfl (by kernel_rfl) (by kernel_rfl) (by kernel_rfl) (fun _ _ _ h => h) rfl (fun _ => OpY.shlOne rfl rfl rfl (by omega) hq) ?_
      refine DL.stepS (i := 4) (by kernel_rfl) rfl rfl (OpStep.buildSlice (us := [.int .i64 (((q : Nat) : Int))]) Tsl_22 (by decide) (by decide) ⟨rfl, [.int .i64 (((q : Nat) : Int))], _, rfl, rfl, rfl, rfl⟩ rfl fun b3 => ?_)
      refine ⟨(Some'.weak (.skip (.skip (.take (.nil _))))), ?_⟩
      refine DL.stepS (i := 5) (by kernel_rfl) rfl rfl (OpStep.append (H1 := [.own (.slice (some ⟨b3, 0, none⟩) 1 1) 3 1 1 ([.int .i64 (((q : Nat) : Int))])]) (H2 := [.blk b2 28 [v], .blk b1 28 [.slice none 0 0]]) (v := v) (u := .slice (some ⟨b3, 0, none⟩) 1 1) (n := i) (m := 1) (xs := ints (nl (idL i))) (ys := [.int .i64 (((q : Nat) : Int))]) Tsl_22 (by decide) rfl rfl rfl rfl (fun w hs => hs.slOwn (.head _)) (by simp [Value.oneCell']) (by omega) (by simp only [maxLen]; omega) fun av1 hnav1 => ?_)
      refine DL.weakS (H' := [.own (.slice (some ⟨b3, 0, none⟩) 1 1) 3 1 1 ([.int .i64 (((q : Nat) : Int))]), .own av1 3 1 (i + 1) (ints (nl (idL (i + 1)))), .blk b2 28 [v], .blk b1 28 [.slice none 0 0]]) (Some'.weak (.take (.takeEq (by rw [ints_idL _ _ hq]) (.take (.take (.nil _)))))) ?_
      refine ⟨(Some'.weak (.skip (.skip (.take (.nil _))))), ?_⟩
      refine DL.takeP (i := 6) (v := .pointer (some ⟨b2, 0, none⟩)) rfl (by kernel_rfl) (by kernel_rfl) (by kernel_rfl) (fun _ _ _ h => h) rfl (fun _ => OpY.fieldAddr Tfo_28_0 rfl rfl) ?_
      refine DL.formOwn (.tail _ (List.Mem.head _)) (fun A_av11 c_av11 hv hcapc_av11 hmaxc_av11 => ?_)
      subst hv
      refine DL.step (i := 7) (by kernel_rfl) (by kernel_rfl) rfl rfl (OpStep.storeAll (us := [.slice A_av11 (i + 1) c_av11]) Tsize_22 rfl rfl rfl (.there _ (.there _ (.here _))) rfl ?_)
      refine DL.done (by kernel_rfl) ?_
      refine Run.blockEnd ?_
      refine Run.region ?_
      refine Run.q (v := .int .i64 ((((i : Nat) : Int)) + 1)) rfl (OpQ.y (OpY.add rfl rfl rfl (by omega) (by omega))) ?_
      refine Run.q (v := .int .i64 ((((i : Nat) : Int)) + 1)) rfl (OpQ.y (OpY.pure rfl)) ?_
      refine Run.done ?_
      refine Run.goal ⟨(by repeat (first | exact Same.refl _ _ | refine Same.put rfl ?_ | refine Same.over rfl rfl ?_)), (i + 1, .slice A_av11 (i + 1) c_av11), ?_, ?_, ?_, ?_⟩
      · exact hlt
      · show n - (i + 1) < n - i; omega
      · exact ⟨(by first | rfl | (congr 1; omega) | simp), trivial⟩
      · exact ((((Weak.front [.own (.slice (some ⟨b3, 0, none⟩) 1 1) 3 1 1 ([.int .i64 (((q : Nat) : Int))]), .own (.slice A_av11 (i + 1) c_av11) 3 1 (i + 1) (ints (nl (idL (i + 1)))), .blk b2 28 [.slice A_av11 (i + 1) c_av11]] (.blk b1 28 [.slice none 0 0]) []).trans (Weak.front [.blk b1 28 [.slice none 0 0], .own (.slice (some ⟨b3, 0, none⟩) 1 1) 3 1 1 ([.int .i64 (((q : Nat) : Int))]), .own (.slice A_av11 (i + 1) c_av11) 3 1 (i + 1) (ints (nl (idL (i + 1))))] (.blk b2 28 [.slice A_av11 (i + 1) c_av11]) [])).trans (Weak.front [.blk b2 28 [.slice A_av11 (i + 1) c_av11], .blk b1 28 [.slice none 0 0], .own (.slice (some ⟨b3, 0, none⟩) 1 1) 3 1 1 ([.int .i64 (((q : Nat) : Int))])] (.own (.slice A_av11 (i + 1) c_av11) 3 1 (i + 1) (ints (nl (idL (i + 1))))) [])).trans (Some'.weak (.takeEq (by first | rfl | simp [idL, nl, ints]) (.takeEq (by first | rfl | simp [idL, nl, ints]) (.take (.nil _))))))
    · have p8 := h8; try simp only [bs] at p8
      have hin : i = n := by omega
      refine Run.exit rfl ?_
      refine Run.seq ?_
      refine Run.region ?_
      refine Run.q (v := .agg #[v]) rfl (OpQ.y (OpY.loadN (cs := [v]) Tagg_28 rfl (Cells.blk (.tail _ (List.Mem.head _)) ⟨rfl, trivial⟩))) ?_
      refine Run.formOwn (.head _) (fun A_v1 c_v1 hv hcapc_v1 hmaxc_v1 => ?_) (fun _ _ _ => ⟨nofun, nofun, nofun⟩)
      subst hv
      refine Run.step rfl (OpStep.storeAll (us := [.slice A_v1 i c_v1]) Tsize_28 rfl rfl rfl (.there _ (.there _ (.here _))) rfl ?_)
      refine Run.done ?_
      refine Run.ret ?_
      refine ⟨.agg #[.slice A_v1 i c_v1], [.own (.slice A_v1 i c_v1) 3 1 n (ints (nl (idL n)))], Out.cell1 (cs := [.slice A_v1 i c_v1]) rfl Tagg_28 rfl (Cells.blk (.tail _ (.tail _ (List.Mem.head _))) ⟨rfl, trivial⟩), (Some'.weak (.takeEq (by first | rfl | (rw [hin])) (.nil _))), ?_⟩
      exact ⟨_, rfl, rfl⟩

end Go.Proofs.Yteehfidjofcfmaa
