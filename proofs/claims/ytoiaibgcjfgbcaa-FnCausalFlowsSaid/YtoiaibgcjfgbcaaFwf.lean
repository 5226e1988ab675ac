/- Walks: the searches for causal flows of both sides. -/
import Derived.Test.YtoiaibgcjfgbcaaFwe
import Derived.Test.YtoiaibgcjfgbcaaProg
set_option linter.unusedSimpArgs false
set_option linter.unusedVariables false
namespace Go.Proofs.Ytoiaibgcjfgbcaa
open Go Go.RowKit
namespace FwfT
theorem Tagg_26 : aggOf Try.prog 26 = some 4 := by kernel_rfl
theorem Tagg_29 : aggOf Try.prog 29 = some 2 := by kernel_rfl
theorem Tcall_24 : callable Try.prog 24 = true := by kernel_rfl
theorem Tcall_25 : callable Try.prog 25 = true := by kernel_rfl
theorem Tcall_26 : callable Try.prog 26 = true := by kernel_rfl
theorem Tcall_27 : callable Try.prog 27 = true := by kernel_rfl
theorem Tcall_28 : callable Try.prog 28 = true := by kernel_rfl
theorem Tcall_29 : callable Try.prog 29 = true := by kernel_rfl
theorem Tcall_30 : callable Try.prog 30 = true := by kernel_rfl
theorem Tcall_31 : callable Try.prog 31 = true := by kernel_rfl
theorem Tcall_32 : callable Try.prog 32 = true := by kernel_rfl
theorem Tcall_33 : callable Try.prog 33 = true := by kernel_rfl
theorem Tcall_57 : callable Try.prog 57 = true := by kernel_rfl
theorem Tcall_58 : callable Try.prog 58 = true := by kernel_rfl
theorem Tcall_59 : callable Try.prog 59 = true := by kernel_rfl
theorem Tcall_60 : callable Try.prog 60 = true := by kernel_rfl
theorem Tcall_61 : callable Try.prog 61 = true := by kernel_rfl
theorem Tcall_62 : callable Try.prog 62 = true := by kernel_rfl
theorem Tfo_26_0 : fieldOff Try.prog 26 0 = some 0 := by kernel_rfl
theorem Tfo_26_2 : fieldOff Try.prog 26 2 = some 2 := by kernel_rfl
theorem Tfo_29_0 : fieldOff Try.prog 29 0 = some 0 := by kernel_rfl
theorem Tfo_29_1 : fieldOff Try.prog 29 1 = some 1 := by kernel_rfl
theorem Tone_24 : oneOf Try.prog 24 = true := by kernel_rfl
theorem Tone_3 : oneOf Try.prog 3 = true := by kernel_rfl
theorem Tsize_24 : (Try.prog.info? 24).map (·.size) = some 1 := by kernel_rfl
theorem Tsize_29 : (Try.prog.info? 29).map (·.size) = some 2 := by kernel_rfl
theorem Tsize_3 : (Try.prog.info? 3).map (·.size) = some 1 := by kernel_rfl
theorem Tsl_24 : sliceOf Try.prog 24 = some (3, 1, 8, [.int .i64 0]) := by kernel_rfl
theorem Tzero_29 : zeroOf Try.prog 29 = some [.slice none 0 0, .slice none 0 0] := by kernel_rfl
end FwfT
open FwfT
set_option maxHeartbeats 2000000 in
set_option maxRecDepth 20000 in
theorem CausalFlowOf_spec {ve vi vo : Value} {n m ni no : Nat} {es is os : List Int} {w : World} (hn11 : n ≤ 11) (he : Sl w ve 2 m (ints es)) (hi : Sl w vi 1 ni (ints is)) (ho : Sl w vo 1 no (ints os)) : Calls Try.prog 6 #[.agg #[.int .i64 (n : Int), ve, vi, vo]] w (Post No w fun v H => ∃ u1 u2, v = .tuple #[.agg #[u1, u2], .bool (cfO es m n is ni os no).isSome] ∧ H = [.own u1 3 1 (cfA es m n is ni os no).length (ints (cfA es m n is ni os no)), .own u2 3 1 (cfL es m n is ni os no).length (ints (cfL es m n is ni os no))]) := by
 refine enter (n := 92) (args := [.agg #[.int .i64 (((n : Nat) : Int)), ve, vi, vo]]) Try.func6 rfl rfl (St.empty _ _) ?_
 refine Run.sr ?_
 refine Run.step rfl (OpStep.box (us := [.int .i64 (((n : Nat) : Int)), ve, vi, vo]) rfl fun b1 => ?_)
 refine Run.step rfl (OpStep.alloc (zs := [.slice none 0 0, .slice none 0 0]) Tzero_29 fun b2 => ?_)
 refine Run.p (.bool false) rfl rfl ?_
 refine Run.done ?_
 refine Run.seq ?_
 refine Run.sr ?_
 refine Run.y (.agg #[.int .i64 (((n : Nat) : Int)), ve, vi, vo]) rfl (OpY.loadN (cs := [.int .i64 (((n : Nat) : Int)), ve, vi, vo]) Tagg_26 rfl (Cells.blk (.tail _ (List.Mem.head _)) ⟨rfl, rfl, rfl, rfl, trivial⟩)) ?_
 refine Run.q (v := .bool (ogB n es m is ni os no)) rfl (OpQ.call (vs := [.agg #[.int .i64 (((n : Nat) : Int)), ve, vi, vo]]) (caps := []) Tcall_24 rfl rfl (fun w hs => IsValidOpenGraph_spec hn11 (hs.sl he) (hs.sl hi) (hs.sl ho))) ?_
 refine Run.p (.bool (!(ogB n es m is ni os no))) rfl rfl ?_
 refine Run.done ?_
 refine Run.cond (b := !(ogB n es m is ni os no)) rfl (fun h14 => ?_) (fun h14 => ?_)
 ·have p14 := h14; try simp only [bs] at p14
  have hg : ogB n es m is ni os no = false := by simpa using p14
  have hres := cf_none (cf_bad hg)
  refine Run.sr ?_
  refine Run.y (.agg #[.slice none 0 0, .slice none 0 0]) rfl (OpY.build (cs := [.slice none 0 0, .slice none 0 0]) (by kernel_rfl)) ?_
  refine Run.step rfl (OpStep.storeAll (us := [.slice none 0 0, .slice none 0 0]) Tsize_29 rfl rfl rfl (.here _) rfl ?_)
  refine Run.p (.bool false) rfl rfl ?_
  refine Run.done ?_
  refine Run.ret ?_
  refine ⟨.tuple #[.agg #[.slice none 0 0, .slice none 0 0], .bool false], [.own (.slice none 0 0) 3 1 0 ([]), .own (.slice none 0 0) 3 1 0 ([])], Out.cell2 (cs := [.slice none 0 0, .slice none 0 0]) rfl Tagg_29 rfl (Cells.blk (.head _) ⟨rfl, rfl, trivial⟩) rfl, ((Weak.nilOwn 3 1).trans ((Weak.nilOwn 3 1).trans (Some'.weak (.take (.take (.nil _)))))), ?_⟩
  exact ⟨_, _, by rw [hres.2.2], by rw [hres.1, hres.2.1]; rfl⟩
 ·have p14 := h14; try simp only [bs] at p14
  have hg : ogB n es m is ni os no = true := by simpa using p14
  obtain ⟨hn1, hn10, hes, hri, hro⟩ := og_ok hg
  have hp10 := pow10 hn10
  refine Run.skip ?_
  refine Run.seq ?_
  refine Run.cut (ι := Nat × Value × Value) [4, 16, 17, 18, 19, 20, 21, 22] (fun ⟨b4, v1, v2⟩ => [(4, .pointer (some ⟨b4, 0, none⟩))]) (fun ⟨b4, v1, v2⟩ => [.blk b4 29 [v1, v2], .own v1 3 1 n (ints (List.replicate n (-1))), .own v2 3 1 n (ints (ly0 os no n)), .blk b2 29 [.slice none 0 0, .slice none 0 0], .blk b1 26 [.int .i64 (((n : Nat) : Int)), ve, vi, vo]]) (fun ⟨b4, v1, v2⟩ => True) ?_ ?_
  ·refine Run.held (by kernel_rfl) ?_
   refine DW.take (i := 1) (v := .pointer (some ⟨b1, 0, none⟩)) rfl (by kernel_rfl) (by kernel_rfl) (by kernel_rfl) (fun _ _ _ h => h) (Weak.refl _) rfl (OpY.fieldAddr Tfo_26_0 rfl rfl) ?_
   refine DW.take (i := 2) (v := .int .i64 (((n : Nat) : Int))) rfl (by kernel_rfl) (by kernel_rfl) (by kernel_rfl) (fun _ _ _ h => h) (Weak.refl _) rfl (OpY.load1 Tone_3 rfl (Cells.blk (.tail _ (List.Mem.head _)) ⟨rfl, trivial⟩)) ?_
   refine DW.take (i := 4) (v := .agg #[.int .i64 (((n : Nat) : Int)), ve, vi, vo]) rfl (by kernel_rfl) (by kernel_rfl) (by kernel_rfl) (fun _ _ _ h => h) (Weak.refl _) rfl (OpY.loadN (cs := [.int .i64 (((n : Nat) : Int)), ve, vi, vo]) Tagg_26 rfl (Cells.blk (.tail _ (List.Mem.head _)) ⟨rfl, rfl, rfl, rfl, trivial⟩)) ?_
   refine DW.two (i := 0) (j := 7) (by kernel_rfl) rfl rfl rfl rfl ?_ ?_
   ·refine OpStep.buildSlice (us := [.int .i64 (-1)]) Tsl_24 (by decide) (by decide) ⟨rfl, [.int .i64 (-1)], _, rfl, rfl, rfl, rfl⟩ rfl fun b3 => ?_
    refine ⟨(Some'.weak (.skip (.take (.take (.nil _))))), ?_⟩
    refine DW.two (i := 3) (j := 7) (by kernel_rfl) rfl rfl rfl rfl ?_ ?_
    ·refine OpStep.call (vs := [.slice (some ⟨b3, 0, none⟩) 1 1, .int .i64 (((n : Nat) : Int))]) (caps := []) Tcall_25 rfl rfl (fun w hs => Repeat_spec hn1 hn10 (hs.slOwn (.head _))) ?_
     rintro ur _ rfl
     refine ⟨(Some'.weak (.skip (.skip (.take (.take (.nil _)))))), ?_⟩
     refine DW.two (i := 5) (j := 7) (by kernel_rfl) rfl rfl rfl rfl ?_ ?_
     ·refine OpStep.call (vs := [.agg #[.int .i64 (((n : Nat) : Int)), ve, vi, vo]]) (caps := []) Tcall_26 rfl rfl (fun w hs => firstLayer_spec (ve := ve) (vi := vi) hn1 hn10 hro (hs.sl ho)) ?_
      rintro uf _ rfl
      refine ⟨(Some'.weak (.skip (.skip (.skip (.take (.take (.nil _))))))), ?_⟩
      refine DW.formOwn (.tail _ (List.Mem.head _)) (fun A_ur1 c_ur1 hv hcapc_ur1 hmaxc_ur1 => ?_)
      subst hv
      refine DW.formOwn (.head _) (fun A_uf1 c_uf1 hv hcapc_uf1 hmaxc_uf1 => ?_)
      subst hv
      refine DW.take (i := 6) (v := .agg #[.slice A_ur1 n c_ur1, .slice A_uf1 n c_uf1]) rfl (by kernel_rfl) (by kernel_rfl) (by kernel_rfl) (fun _ _ _ h => h) (Some'.weak (.skip (.skip (.skip (.take (.take (.nil _))))))) rfl (OpY.build (cs := [.slice A_ur1 n c_ur1, .slice A_uf1 n c_uf1]) (by kernel_rfl)) ?_
      refine DW.step (i := 7) (by kernel_rfl) rfl rfl (OpStep.alloc (zs := [.slice none 0 0, .slice none 0 0]) Tzero_29 fun b4 => ?_)
      refine ⟨(Some'.weak (.skip (.skip (.skip (.skip (.take (.take (.nil _)))))))), ?_⟩
      refine DW.step (i := 8) (by kernel_rfl) rfl rfl (OpStep.storeAll (us := [.slice A_ur1 n c_ur1, .slice A_uf1 n c_uf1]) Tsize_29 rfl rfl rfl (.here _) rfl ?_)
      refine ⟨(Some'.weak (.skip (.skip (.skip (.skip (.take (.take (.nil _)))))))), ?_⟩
      refine DW.done (by kernel_rfl) ?_
      refine Run.goal ⟨(by repeat (first | exact Same.refl _ _ | refine Same.put rfl ?_ | refine Same.over rfl rfl ?_)), (b4, .slice A_ur1 n c_ur1, .slice A_uf1 n c_uf1), ?_, ?_, ?_⟩
      ·trivial
      ·exact ⟨(by first | rfl | (congr 1; omega) | simp [*]), trivial⟩
      ·exact ((Weak.selF [0, 1, 0, 1, 1]).trans (Some'.weak (.takeEq (by first | rfl | simp) (.takeEq (by first | rfl | simp) (.takeEq (by first | rfl | simp) (.take (.take (.nil _))))))))
     ·refine OpStep.alloc (zs := [.slice none 0 0, .slice none 0 0]) Tzero_29 fun b5 => ?_
      refine ⟨(Some'.weak (.skip (.skip (.skip (.take (.take (.nil _))))))), ?_⟩
      refine DW.step (i := 5) (by kernel_rfl) rfl rfl (OpStep.call (vs := [.agg #[.int .i64 (((n : Nat) : Int)), ve, vi, vo]]) (caps := []) Tcall_26 rfl rfl (fun w hs => firstLayer_spec (ve := ve) (vi := vi) hn1 hn10 hro (hs.sl ho)) ?_)
      rintro uf _ rfl
      refine ⟨(Some'.weak (.skip (.skip (.skip (.skip (.take (.take (.nil _)))))))), ?_⟩
      refine DW.formOwn (.tail _ (.tail _ (List.Mem.head _))) (fun A_ur2 c_ur2 hv hcapc_ur2 hmaxc_ur2 => ?_)
      subst hv
      refine DW.formOwn (.head _) (fun A_uf2 c_uf2 hv hcapc_uf2 hmaxc_uf2 => ?_)
      subst hv
      refine DW.take (i := 6) (v := .agg #[.slice A_ur2 n c_ur2, .slice A_uf2 n c_uf2]) rfl (by kernel_rfl) (by kernel_rfl) (by kernel_rfl) (fun _ _ _ h => h) (Some'.weak (.skip (.skip (.skip (.skip (.take (.take (.nil _)))))))) rfl (OpY.build (cs := [.slice A_ur2 n c_ur2, .slice A_uf2 n c_uf2]) (by kernel_rfl)) ?_
      refine DW.step (i := 8) (by kernel_rfl) rfl rfl (OpStep.storeAll (us := [.slice A_ur2 n c_ur2, .slice A_uf2 n c_uf2]) Tsize_29 rfl rfl rfl (.there _ (.here _)) rfl ?_)
      refine ⟨(Some'.weak (.skip (.skip (.skip (.skip (.take (.take (.nil _)))))))), ?_⟩
      refine DW.done (by kernel_rfl) ?_
      refine Run.goal ⟨(by repeat (first | exact Same.refl _ _ | refine Same.put rfl ?_ | refine Same.over rfl rfl ?_)), (b5, .slice A_ur2 n c_ur2, .slice A_uf2 n c_uf2), ?_, ?_, ?_⟩
      ·trivial
      ·exact ⟨(by first | rfl | (congr 1; omega) | simp [*]), trivial⟩
      ·exact ((Weak.selF [1, 1, 0, 1, 1]).trans (Some'.weak (.takeEq (by first | rfl | simp) (.takeEq (by first | rfl | simp) (.takeEq (by first | rfl | simp) (.take (.take (.nil _))))))))
    ·refine OpStep.alloc (zs := [.slice none 0 0, .slice none 0 0]) Tzero_29 fun b6 => ?_
     refine ⟨(Some'.weak (.skip (.skip (.take (.take (.nil _)))))), ?_⟩
     refine DW.step (i := 3) (by kernel_rfl) rfl rfl (OpStep.call (vs := [.slice (some ⟨b3, 0, none⟩) 1 1, .int .i64 (((n : Nat) : Int))]) (caps := []) Tcall_25 rfl rfl (fun w hs => Repeat_spec hn1 hn10 (hs.slOwn (.tail _ (List.Mem.head _)))) ?_)
     rintro ur _ rfl
     refine ⟨(Some'.weak (.skip (.skip (.skip (.take (.take (.nil _))))))), ?_⟩
     refine DW.step (i := 5) (by kernel_rfl) rfl rfl (OpStep.call (vs := [.agg #[.int .i64 (((n : Nat) : Int)), ve, vi, vo]]) (caps := []) Tcall_26 rfl rfl (fun w hs => firstLayer_spec (ve := ve) (vi := vi) hn1 hn10 hro (hs.sl ho)) ?_)
     rintro uf _ rfl
     refine ⟨(Some'.weak (.skip (.skip (.skip (.skip (.take (.take (.nil _)))))))), ?_⟩
     refine DW.formOwn (.tail _ (List.Mem.head _)) (fun A_ur3 c_ur3 hv hcapc_ur3 hmaxc_ur3 => ?_)
     subst hv
     refine DW.formOwn (.head _) (fun A_uf3 c_uf3 hv hcapc_uf3 hmaxc_uf3 => ?_)
     subst hv
     refine DW.take (i := 6) (v := .agg #[.slice A_ur3 n c_ur3, .slice A_uf3 n c_uf3]) rfl (by kernel_rfl) (by kernel_rfl) (by kernel_rfl) (fun _ _ _ h => h) (Some'.weak (.skip (.skip (.skip (.skip (.take (.take (.nil _)))))))) rfl (OpY.build (cs := [.slice A_ur3 n c_ur3, .slice A_uf3 n c_uf3]) (by kernel_rfl)) ?_
     refine DW.step (i := 8) (by kernel_rfl) rfl rfl (OpStep.storeAll (us := [.slice A_ur3 n c_ur3, .slice A_uf3 n c_uf3]) Tsize_29 rfl rfl rfl (.there _ (.there _ (.here _))) rfl ?_)
     refine ⟨(Some'.weak (.skip (.skip (.skip (.skip (.take (.take (.nil _)))))))), ?_⟩
     refine DW.done (by kernel_rfl) ?_
     refine Run.goal ⟨(by repeat (first | exact Same.refl _ _ | refine Same.put rfl ?_ | refine Same.over rfl rfl ?_)), (b6, .slice A_ur3 n c_ur3, .slice A_uf3 n c_uf3), ?_, ?_, ?_⟩
     ·trivial
     ·exact ⟨(by first | rfl | (congr 1; omega) | simp [*]), trivial⟩
     ·exact ((Weak.selF [2, 1, 0, 1, 1]).trans (Some'.weak (.takeEq (by first | rfl | simp) (.takeEq (by first | rfl | simp) (.takeEq (by first | rfl | simp) (.take (.take (.nil _))))))))
   ·refine OpStep.alloc (zs := [.slice none 0 0, .slice none 0 0]) Tzero_29 fun b7 => ?_
    refine ⟨(Some'.weak (.skip (.take (.take (.nil _))))), ?_⟩
    refine DW.step (i := 0) (by kernel_rfl) rfl rfl (OpStep.buildSlice (us := [.int .i64 (-1)]) Tsl_24 (by decide) (by decide) ⟨rfl, [.int .i64 (-1)], _, rfl, rfl, rfl, rfl⟩ rfl fun b8 => ?_)
    refine ⟨(Some'.weak (.skip (.skip (.take (.take (.nil _)))))), ?_⟩
    refine DW.step (i := 3) (by kernel_rfl) rfl rfl (OpStep.call (vs := [.slice (some ⟨b8, 0, none⟩) 1 1, .int .i64 (((n : Nat) : Int))]) (caps := []) Tcall_25 rfl rfl (fun w hs => Repeat_spec hn1 hn10 (hs.slOwn (.head _))) ?_)
    rintro ur _ rfl
    refine ⟨(Some'.weak (.skip (.skip (.skip (.take (.take (.nil _))))))), ?_⟩
    refine DW.step (i := 5) (by kernel_rfl) rfl rfl (OpStep.call (vs := [.agg #[.int .i64 (((n : Nat) : Int)), ve, vi, vo]]) (caps := []) Tcall_26 rfl rfl (fun w hs => firstLayer_spec (ve := ve) (vi := vi) hn1 hn10 hro (hs.sl ho)) ?_)
    rintro uf _ rfl
    refine ⟨(Some'.weak (.skip (.skip (.skip (.skip (.take (.take (.nil _)))))))), ?_⟩
    refine DW.formOwn (.tail _ (List.Mem.head _)) (fun A_ur4 c_ur4 hv hcapc_ur4 hmaxc_ur4 => ?_)
    subst hv
    refine DW.formOwn (.head _) (fun A_uf4 c_uf4 hv hcapc_uf4 hmaxc_uf4 => ?_)
    subst hv
    refine DW.take (i := 6) (v := .agg #[.slice A_ur4 n c_ur4, .slice A_uf4 n c_uf4]) rfl (by kernel_rfl) (by kernel_rfl) (by kernel_rfl) (fun _ _ _ h => h) (Some'.weak (.skip (.skip (.skip (.skip (.take (.take (.nil _)))))))) rfl (OpY.build (cs := [.slice A_ur4 n c_ur4, .slice A_uf4 n c_uf4]) (by kernel_rfl)) ?_
    refine DW.step (i := 8) (by kernel_rfl) rfl rfl (OpStep.storeAll (us := [.slice A_ur4 n c_ur4, .slice A_uf4 n c_uf4]) Tsize_29 rfl rfl rfl (.there _ (.there _ (.there _ (.here _)))) rfl ?_)
    refine ⟨(Some'.weak (.skip (.skip (.skip (.skip (.take (.take (.nil _)))))))), ?_⟩
    refine DW.done (by kernel_rfl) ?_
    refine Run.goal ⟨(by repeat (first | exact Same.refl _ _ | refine Same.put rfl ?_ | refine Same.over rfl rfl ?_)), (b7, .slice A_ur4 n c_ur4, .slice A_uf4 n c_uf4), ?_, ?_, ?_⟩
    ·trivial
    ·exact ⟨(by first | rfl | (congr 1; omega) | simp [*]), trivial⟩
    ·exact ((Weak.selF [3, 1, 0, 1, 1]).trans (Some'.weak (.takeEq (by first | rfl | simp) (.takeEq (by first | rfl | simp) (.takeEq (by first | rfl | simp) (.take (.take (.nil _))))))))
  ·rintro ⟨b4, v1, v2⟩ fr hcut
   show Run _ _ (over _ _ [(4, .pointer (some ⟨b4, 0, none⟩))] fr) [.blk b4 29 [v1, v2], .own v1 3 1 n (ints (List.replicate n (-1))), .own v2 3 1 n (ints (ly0 os no n)), .blk b2 29 [.slice none 0 0, .slice none 0 0], .blk b1 26 [.int .i64 (((n : Nat) : Int)), ve, vi, vo]]
   refine Run.sr ?_
   refine Run.p (.int .i64 1) rfl rfl ?_
   refine Run.done ?_
   refine Run.block ?_
   refine Run.loop (ι := Nat × Nat × List Int × List Int × Value × Value) ([3, 5, 6, 7, 8, 9, 10, 11, 23, 24, 25, 26, 27, 28, 29, 30, 31, 32, 33, 34, 35, 36, 37, 38, 39, 40, 41, 42, 43, 44, 45, 46, 47, 48, 49, 50, 51, 52, 53, 54, 55, 56, 57, 58, 59, 60, 61, 62, 63, 64] ++ [65, 66, 67, 68, 69, 70, 71, 72, 73, 74, 75, 76, 77, 78, 79, 80, 81, 82, 83, 84, 85, 86, 87, 88, 89, 90, 91]) (fun ⟨f, k, nx, ly, v1, v2⟩ => [(5, .int .i64 (((k : Nat) : Int)))]) (fun ⟨f, k, nx, ly, v1, v2⟩ => [.blk b4 29 [v1, v2], .blk b2 29 [.slice none 0 0, .slice none 0 0], .blk b1 26 [.int .i64 (((n : Nat) : Int)), ve, vi, vo], .own v1 3 1 n (ints nx), .own v2 3 1 n (ints ly)]) (fun ⟨f, k, nx, ly, v1, v2⟩ => CfI es m n is ni os no f k nx ly) (fun ⟨f, k, nx, ly, v1, v2⟩ => f) (n + 1, 1, List.replicate n (-1), ly0 os no n, v1, v2) ?_ ?_ ?_ ?_
   ·exact CfI.start hg
   ·exact ⟨rfl, trivial⟩
   ·exact ((Weak.selF [0, 2, 2, 0, 0]).trans (Some'.weak (.take (.take (.take (.takeEq (by first | rfl | simp) (.takeEq (by first | rfl | simp) (.nil _))))))))
   ·rintro ⟨f, k, nx, ly, v1, v2⟩ fr hinv
    show Run _ _ (over _ _ [(5, .int .i64 (((k : Nat) : Int)))] fr) [.blk b4 29 [v1, v2], .blk b2 29 [.slice none 0 0, .slice none 0 0], .blk b1 26 [.int .i64 (((n : Nat) : Int)), ve, vi, vo], .own v1 3 1 n (ints nx), .own v2 3 1 n (ints ly)]
    try dsimp only at hinv
    obtain ⟨f2, rfl⟩ : ∃ f2, f = f2 + 1 := ⟨f - 1, by have := hinv.cnt; omega⟩
    have hnl := hinv.fl.ln
    have hll := hinv.fl.ll
    have hkf := hinv.kf
    have hk1 := hinv.k1
    have hul := unl_lt ly n
    have hloop := hinv
    refine Run.seq ?_
    refine Run.block ?_
    refine Run.sr ?_
    refine Run.y (.pointer (some ⟨b4, 1, none⟩)) rfl (OpY.fieldAddr Tfo_29_1 rfl rfl) ?_
    refine Run.y (v2) rfl (OpY.load1 Tone_24 rfl (Cells.blk (.head _) ⟨rfl, trivial⟩)) ?_
    refine Run.q (v := .int .i64 (((unl ly n : Nat) : Int))) rfl (OpQ.call (vs := [v2]) (caps := []) Tcall_27 rfl rfl (fun w hs => unlayered_spec (ly := ly) hn10 (hs.slOwn (.tail _ (.tail _ (.tail _ (.tail _ (List.Mem.head _)))))))) ?_
    refine Run.p (.int .i64 (((unl ly n : Nat) : Int))) rfl rfl ?_
    refine Run.done ?_
    refine Run.seq ?_
    refine Run.sr ?_
    refine Run.p (.int .i64 (((unl ly n : Nat) : Int))) rfl rfl ?_
    refine Run.p (.bool ((((unl ly n : Nat) : Int)) == 0)) rfl rfl ?_
    refine Run.done ?_
    refine Run.cond (b := (((unl ly n : Nat) : Int)) == 0) rfl (fun h29 => ?_) (fun h29 => ?_)
    ·have p29 := h29; try simp only [bs] at p29
     have hres := cf_some (hinv.stop (by omega))
     refine Run.sr ?_
     refine Run.y (.agg #[v1, v2]) rfl (OpY.loadN (cs := [v1, v2]) Tagg_29 rfl (Cells.blk (.head _) ⟨rfl, rfl, trivial⟩)) ?_
     refine Run.formOwn (.tail _ (.tail _ (.tail _ (List.Mem.head _)))) (fun A_v11 c_v11 hv hcapc_v11 hmaxc_v11 => ?_) (fun _ _ _ => ⟨nofun, nofun, nofun⟩)
     subst hv
     refine Run.formOwn (.tail _ (.tail _ (.tail _ (.tail _ (List.Mem.head _))))) (fun A_v21 c_v21 hv hcapc_v21 hmaxc_v21 => ?_) (fun _ _ _ => ⟨nofun, nofun, nofun⟩)
     subst hv
     refine Run.step rfl (OpStep.storeAll (us := [.slice A_v11 n c_v11, .slice A_v21 n c_v21]) Tsize_29 rfl rfl rfl (.there _ (.here _)) rfl ?_)
     refine Run.p (.bool true) rfl rfl ?_
     refine Run.done ?_
     refine Run.ret ?_
     refine ⟨.tuple #[.agg #[.slice A_v11 n c_v11, .slice A_v21 n c_v21], .bool true], [.own (.slice A_v11 n c_v11) 3 1 n (ints nx), .own (.slice A_v21 n c_v21) 3 1 n (ints ly)], Out.cell2 (cs := [.slice A_v11 n c_v11, .slice A_v21 n c_v21]) rfl Tagg_29 rfl (Cells.blk (.tail _ (List.Mem.head _)) ⟨rfl, rfl, trivial⟩) rfl, (Some'.weak (.skip (.skip (.skip (.take (.take (.nil _))))))), ?_⟩
     exact ⟨_, _, by rw [hres.2.2], by rw [hres.1, hres.2.1, hnl, hll]⟩
    ·have p29 := h29; try simp only [bs] at p29
     have h0 : unl ly n ≠ 0 := by omega
     refine Run.skip ?_
     refine Run.seq ?_
     refine Run.cut (ι := Value × Value) [7, 8, 31, 32, 33, 34, 35, 36] (fun ⟨w1, w2⟩ => [(7, w1), (8, w2)]) (fun ⟨w1, w2⟩ => [.own w1 3 1 n (ints nx), .own w2 3 1 n (ints ly), .blk b4 29 [v1, v2], .blk b2 29 [.slice none 0 0, .slice none 0 0], .blk b1 26 [.int .i64 (((n : Nat) : Int)), ve, vi, vo], .own v1 3 1 n (ints nx), .own v2 3 1 n (ints ly)]) (fun ⟨w1, w2⟩ => True) ?_ ?_
     ·refine Run.held (by kernel_rfl) ?_
      refine DW.take (i := 0) (v := .pointer (some ⟨b4, 0, none⟩)) rfl (by kernel_rfl) (by kernel_rfl) (by kernel_rfl) (fun _ _ _ h => h) (Weak.refl _) rfl (OpY.fieldAddr Tfo_29_0 rfl rfl) ?_
      refine DW.take (i := 1) (v := v1) rfl (by kernel_rfl) (by kernel_rfl) (by kernel_rfl) (fun _ _ _ h => h) (Weak.refl _) rfl (OpY.load1 Tone_24 rfl (Cells.blk (.head _) ⟨rfl, trivial⟩)) ?_
      refine DW.take (i := 3) (v := .pointer (some ⟨b4, 1, none⟩)) rfl (by kernel_rfl) (by kernel_rfl) (by kernel_rfl) (fun _ _ _ h => h) (Weak.refl _) rfl (OpY.fieldAddr Tfo_29_1 rfl rfl) ?_
      refine DW.take (i := 4) (v := v2) rfl (by kernel_rfl) (by kernel_rfl) (by kernel_rfl) (fun _ _ _ h => h) (Weak.refl _) rfl (OpY.load1 Tone_24 rfl (Cells.blk (.head _) ⟨rfl, trivial⟩)) ?_
      refine DW.step (i := 2) (by kernel_rfl) rfl rfl (OpStep.call (vs := [v1]) (caps := []) Tcall_28 rfl rfl (fun w hs => CloneInt_spec (by omega) (by omega) (hs.slOwn (.tail _ (.tail _ (.tail _ (List.Mem.head _)))))) ?_)
      rintro uw1 _ rfl
      refine ⟨(Some'.weak (.skip (.take (.take (.take (.take (.take (.nil _)))))))), ?_⟩
      refine DW.step (i := 5) (by kernel_rfl) rfl rfl (OpStep.call (vs := [v2]) (caps := []) Tcall_28 rfl rfl (fun w hs => CloneInt_spec (by omega) (by omega) (hs.slOwn (.tail _ (.tail _ (.tail _ (.tail _ (.tail _ (List.Mem.head _)))))))) ?_)
      rintro uw2 _ rfl
      refine ⟨(Some'.weak (.skip (.skip (.take (.take (.take (.take (.take (.nil _))))))))), ?_⟩
      refine DW.take (i := 6) (v := uw1) rfl (by kernel_rfl) (by kernel_rfl) (by kernel_rfl) (fun _ _ _ h => h) (Some'.weak (.skip (.skip (.take (.take (.take (.take (.take (.nil _))))))))) rfl (OpY.pure rfl) ?_
      refine DW.take (i := 7) (v := uw2) rfl (by kernel_rfl) (by kernel_rfl) (by kernel_rfl) (fun _ _ _ h => h) (Some'.weak (.skip (.skip (.take (.take (.take (.take (.take (.nil _))))))))) rfl (OpY.pure rfl) ?_
      refine DW.done (by kernel_rfl) ?_
      refine Run.goal ⟨(by repeat (first | exact Same.refl _ _ | refine Same.put rfl ?_ | refine Same.over rfl rfl ?_)), (uw1, uw2), ?_, ?_, ?_⟩
      ·trivial
      ·exact ⟨(by first | rfl | (congr 1; omega) | simp [*]), (by first | rfl | (congr 1; omega) | simp [*]), trivial⟩
      ·exact ((Weak.selF [1, 0, 0, 0, 0, 0, 0]).trans (Some'.weak (.takeEq (by first | rfl | simp) (.takeEq (by first | rfl | simp) (.take (.take (.take (.takeEq (by first | rfl | simp) (.takeEq (by first | rfl | simp) (.nil _))))))))))
     ·rintro ⟨w1, w2⟩ fr hcut
      show Run _ _ (over _ _ [(7, w1), (8, w2)] fr) [.own w1 3 1 n (ints nx), .own w2 3 1 n (ints ly), .blk b4 29 [v1, v2], .blk b2 29 [.slice none 0 0, .slice none 0 0], .blk b1 26 [.int .i64 (((n : Nat) : Int)), ve, vi, vo], .own v1 3 1 n (ints nx), .own v2 3 1 n (ints ly)]
      refine Run.seq ?_
      refine Run.sr ?_
      refine Run.y (.pointer (some ⟨b1, 0, none⟩)) rfl (OpY.fieldAddr Tfo_26_0 rfl rfl) ?_
      refine Run.y (.int .i64 (((n : Nat) : Int))) rfl (OpY.load1 Tone_3 rfl (Cells.blk (.tail _ (.tail _ (.tail _ (.tail _ (List.Mem.head _))))) ⟨rfl, trivial⟩)) ?_
      refine Run.y (.int .i64 ((((n : Nat) : Int)) - 1)) rfl (OpY.sub rfl rfl rfl (by omega) (by omega)) ?_
      refine Run.p (.int .i64 ((((n : Nat) : Int)) - 1)) rfl rfl ?_
      refine Run.done ?_
      refine Run.formOwn (.head _) (fun A_w11 c_w11 hv hcapc_w11 hmaxc_w11 => ?_) (fun _ _ _ => ⟨nofun, nofun, nofun⟩)
      subst hv
      refine Run.formOwn (.tail _ (List.Mem.head _)) (fun A_w21 c_w21 hv hcapc_w21 hmaxc_w21 => ?_) (fun _ _ _ => ⟨nofun, nofun, nofun⟩)
      subst hv
      refine Run.block ?_
      refine Run.loop (ι := Nat × List Int × List Int) [9, 10, 11, 40, 41, 42, 43, 44, 45, 46, 47, 48, 49, 50, 51, 52, 53, 54, 55, 56, 57, 58, 59, 60, 61, 62, 63, 64, 65, 66, 67, 68, 69, 70, 71, 72, 73, 74, 75, 76, 77, 78, 79, 80, 81, 82, 83] (fun ⟨t, A, L⟩ => [(9, .int .i64 (((t : Nat) : Int) - 1))]) (fun ⟨t, A, L⟩ => [.own (.slice A_w11 n c_w11) 3 1 n (ints A), .own (.slice A_w21 n c_w21) 3 1 n (ints L), .blk b4 29 [v1, v2], .blk b2 29 [.slice none 0 0, .slice none 0 0], .blk b1 26 [.int .i64 (((n : Nat) : Int)), ve, vi, vo], .own v1 3 1 n (ints nx), .own v2 3 1 n (ints ly)]) (fun ⟨t, A, L⟩ => t ≤ n ∧ DnI (gdB es m n is ni nx ly) n t k nx ly A L) (fun ⟨t, A, L⟩ => t) (n, nx, ly) ?_ ?_ ?_ ?_
      ·exact ⟨Nat.le_refl _, DnI.start hnl hll⟩
      ·exact ⟨rfl, trivial⟩
      ·exact ((Weak.refl _).trans (Some'.weak (.takeEq (by first | rfl | simp) (.takeEq (by first | rfl | simp) (.take (.take (.take (.take (.take (.nil _))))))))))
      ·rintro ⟨t, A, L⟩ fr hinv
       show Run _ _ (over _ _ [(9, .int .i64 (((t : Nat) : Int) - 1))] fr) [.own (.slice A_w11 n c_w11) 3 1 n (ints A), .own (.slice A_w21 n c_w21) 3 1 n (ints L), .blk b4 29 [v1, v2], .blk b2 29 [.slice none 0 0, .slice none 0 0], .blk b1 26 [.int .i64 (((n : Nat) : Int)), ve, vi, vo], .own v1 3 1 n (ints nx), .own v2 3 1 n (ints ly)]
       try dsimp only at hinv
       refine Run.seq ?_
       refine Run.sr ?_
       refine Run.p (.int .i64 (((t : Nat) : Int) - 1)) rfl rfl ?_
       refine Run.p (.bool (decide ((((t : Nat) : Int) - 1) ≥ 0))) rfl rfl ?_
       refine Run.done ?_
       refine Run.cond (b := decide ((((t : Nat) : Int) - 1) ≥ 0)) rfl (fun h41 => ?_) (fun h41 => ?_)
       ·have p41 := h41; try simp only [bs] at p41
        obtain ⟨u, htu⟩ : ∃ u, t = u + 1 := ⟨t - 1, by omega⟩
        obtain ⟨htn, hdn⟩ := hinv
        rw [htu] at hdn
        have hun : u < n := by omega
        have hAl := hdn.la
        have hLl := hdn.ll
        have hng := ng_lt hes u m (Nat.le_refl m)
        have hal : ngK es u m &&& unl ly n < 2 ^ n := Nat.lt_of_le_of_lt Nat.and_le_left hng
        rw [show ((t : Nat) : Int) - 1 = ((u : Nat) : Int) from by omega]
        refine Run.skip ?_
        refine Run.seq ?_
        refine Run.block ?_
        refine Run.sr ?_
        refine Run.y (.agg #[.int .i64 (((n : Nat) : Int)), ve, vi, vo]) rfl (OpY.loadN (cs := [.int .i64 (((n : Nat) : Int)), ve, vi, vo]) Tagg_26 rfl (Cells.blk (.tail _ (.tail _ (.tail _ (.tail _ (List.Mem.head _))))) ⟨rfl, rfl, rfl, rfl, trivial⟩)) ?_
        refine Run.p (.int .i64 (((u : Nat) : Int))) rfl rfl ?_
        refine Run.q (v := .int .i64 (((ngK es u m : Nat) : Int))) rfl (OpQ.call (vs := [.agg #[.int .i64 (((n : Nat) : Int)), ve, vi, vo], .int .i64 (((u : Nat) : Int))]) (caps := []) Tcall_29 rfl rfl (fun w hs => around_spec (v := u) hn10 hes (hs.sl he))) ?_
        refine Run.p (.int .i64 (((unl ly n : Nat) : Int))) rfl rfl ?_
        refine Run.y (.int .i64 (((ngK es u m &&& unl ly n : Nat) : Int))) rfl (OpY.andNat2 rfl rfl (by omega) (by omega)) ?_
        refine Run.p (.int .i64 (((ngK es u m &&& unl ly n : Nat) : Int))) rfl rfl ?_
        refine Run.dsr ?_
        refine Run.p (.int .i64 (((unl ly n : Nat) : Int))) rfl rfl ?_
        refine Run.p (.int .i64 (((u : Nat) : Int))) rfl rfl ?_
        refine Run.y (.int .i64 ((((unl ly n : Nat) : Int)) >>> u)) rfl (OpY.shr rfl rfl (by first | rfl | omega) (by omega)) ?_
        refine Run.y (.int .i64 (((((unl ly n : Nat) : Int)) >>> u) % 2)) rfl (OpY.and1 rfl rfl) ?_
        refine Run.p (.bool ((((((unl ly n : Nat) : Int)) >>> u) % 2) == 0)) rfl rfl ?_
        rcases Bool.eq_false_or_eq_true ((((((unl ly n : Nat) : Int)) >>> u) % 2) == 0) with h54 | h54
        ·refine Run.q (v := .bool true) rfl (OpQ.y (OpY.moveB rfl h54)) ?_
         have p54 := h54; try simp only [bs] at p54
         have hz1 : (unl ly n).testBit u = false := by rw [← bitN]; exact bitI_false p54
         refine Run.y (.pointer (some ⟨b1, 2, none⟩)) rfl (OpY.fieldAddr Tfo_26_2 rfl rfl) ?_
         refine Run.y (vi) rfl (OpY.load1 Tone_24 rfl (Cells.blk (.tail _ (.tail _ (.tail _ (.tail _ (List.Mem.head _))))) ⟨rfl, trivial⟩)) ?_
         refine Run.p (.int .i64 (((u : Nat) : Int))) rfl rfl ?_
         refine Run.q (v := .bool (hasI is (u : Int) ni)) rfl (OpQ.call (vs := [vi, .int .i64 (((u : Nat) : Int))]) (caps := []) Tcall_30 rfl rfl (fun w hs => (by have h := ContainsInt_spec (x := ((u : Nat) : Int)) (hs.sl hi); exact h))) ?_
         refine Run.p (.bool (!(hasI is (u : Int) ni))) rfl rfl ?_
         refine Run.p (.bool (!(hasI is (u : Int) ni))) rfl rfl ?_
         rcases Bool.eq_false_or_eq_true (!(hasI is (u : Int) ni)) with h61 | h61
         ·refine Run.q (v := .bool true) rfl (OpQ.y (OpY.moveB rfl h61)) ?_
          have p61 := h61; try simp only [bs] at p61
          have hz2 : hasI is (u : Int) ni = false := by simpa using p61
          refine Run.y (.pointer (some ⟨b4, 0, none⟩)) rfl (OpY.fieldAddr Tfo_29_0 rfl rfl) ?_
          refine Run.y (v1) rfl (OpY.load1 Tone_24 rfl (Cells.blk (.tail _ (.tail _ (List.Mem.head _))) ⟨rfl, trivial⟩)) ?_
          refine Run.p (.int .i64 (((u : Nat) : Int))) rfl rfl ?_
          refine Run.q (v := .bool (hasI nx (u : Int) n)) rfl (OpQ.call (vs := [v1, .int .i64 (((u : Nat) : Int))]) (caps := []) Tcall_30 rfl rfl (fun w hs => (by have h := ContainsInt_spec (x := ((u : Nat) : Int)) (hs.slOwn (.tail _ (.tail _ (.tail _ (.tail _ (.tail _ (List.Mem.head _))))))); exact h))) ?_
          refine Run.p (.bool (!(hasI nx (u : Int) n))) rfl rfl ?_
          refine Run.p (.bool (!(hasI nx (u : Int) n))) rfl rfl ?_
          rcases Bool.eq_false_or_eq_true (!(hasI nx (u : Int) n)) with h68 | h68
          ·refine Run.q (v := .bool true) rfl (OpQ.y (OpY.moveB rfl h68)) ?_
           have p68 := h68; try simp only [bs] at p68
           have hz3 : hasI nx (u : Int) n = false := by simpa using p68
           refine Run.p (.int .i64 (((ngK es u m &&& unl ly n : Nat) : Int))) rfl rfl ?_
           refine Run.q (v := .int .i64 ((((setN (ngK es u m &&& unl ly n) n).length : Nat) : Int))) rfl (OpQ.call (vs := [.int .i64 (((ngK es u m &&& unl ly n : Nat) : Int))]) (caps := []) Tcall_31 rfl rfl (fun w hs => (by have h := bitsIn_spec (((ngK es u m &&& unl ly n : Nat) : Int)) w; rw [pop_nat hal (by omega)] at h; exact h))) ?_
           refine Run.p (.bool (((((setN (ngK es u m &&& unl ly n) n).length : Nat) : Int)) == 1)) rfl rfl ?_
           refine Run.p (.bool (((((setN (ngK es u m &&& unl ly n) n).length : Nat) : Int)) == 1)) rfl rfl ?_
           refine Run.done ?_
           refine Run.cond (b := ((((setN (ngK es u m &&& unl ly n) n).length : Nat) : Int)) == 1) rfl (fun h72 => ?_) (fun h72 => ?_)
           ·have p72 := h72; try simp only [bs] at p72
            obtain ⟨v0, hv0, ha2, _⟩ := one_bit hal (by omega)
            obtain ⟨hh1, hh2⟩ := gd_hit hz1 hz2 hz3 ha2
            have hhit := hdn.hit hun hv0 hh1 fun w _ hw => hh2 w hw
            have hpos : 0 < ngK es u m &&& unl ly n := by rw [ha2]; exact Nat.two_pow_pos _
            refine Run.sr ?_
            refine Run.p (.int .i64 (((ngK es u m &&& unl ly n : Nat) : Int))) rfl rfl ?_
            refine Run.y (.int .i64 ((((ngK es u m &&& unl ly n) - 1 : Nat) : Int))) rfl (OpY.sub rfl rfl (by omega) (by omega) (by omega)) ?_
            refine Run.q (v := .int .i64 (((v0 : Nat) : Int))) rfl (OpQ.call (vs := [.int .i64 ((((ngK es u m &&& unl ly n) - 1 : Nat) : Int))]) (caps := []) Tcall_31 rfl rfl (fun w hs => (by have h := bitsIn_spec (((2 ^ v0 - 1 : Nat) : Int)) w; rw [pop_low (by omega)] at h; rw [← ha2] at h; exact h))) ?_
            refine Run.p (.int .i64 (((v0 : Nat) : Int))) rfl rfl ?_
            refine Run.done ?_
            refine Run.openOwn (.head _) (by omega) (fun g1 c1 hvg1 hcapg1 _ => ?_) (fun _ _ _ => ⟨nofun, nofun, nofun⟩)
            injection hvg1 with hAg1 _ hcg1; subst hAg1; subst hcg1
            refine Run.openOwn (.tail _ (List.Mem.head _)) (by omega) (fun g2 c2 hvg2 hcapg2 _ => ?_) (fun _ _ _ => ⟨nofun, nofun, nofun⟩)
            injection hvg2 with hAg2 _ hcg2; subst hAg2; subst hcg2
            refine Run.region ?_
            refine Run.p (.slice (some ⟨g1, 0, none⟩) n c_w11) rfl rfl ?_
            refine Run.p (.int .i64 (((v0 : Nat) : Int))) rfl rfl ?_
            refine Run.p (.slice (some ⟨g2, 0, none⟩) n c_w21) rfl rfl ?_
            refine Run.p (.int .i64 (((v0 : Nat) : Int))) rfl rfl ?_
            refine Run.p (.int .i64 (((u : Nat) : Int))) rfl rfl ?_
            refine Run.p (.int .i64 (((k : Nat) : Int))) rfl rfl ?_
            refine Run.y (.pointer (some ⟨g1, v0, none⟩)) rfl (OpY.index (kk := v0) Tsl_24 rfl rfl (by omega) (by omega) (by first | rfl | omega)) ?_
            refine Run.step rfl (OpStep.storeOwnInt (o := v0) (a := ((u : Nat) : Int)) Tsize_3 rfl rfl (.here _) (by first | omega | (simp only [ints_length, List.length_set]; omega)) ?_)
            refine Run.y (.pointer (some ⟨g2, v0, none⟩)) rfl (OpY.index (kk := v0) Tsl_24 rfl rfl (by omega) (by omega) (by first | rfl | omega)) ?_
            refine Run.step rfl (OpStep.storeOwnInt (o := v0) (a := ((k : Nat) : Int)) Tsize_3 rfl rfl (.there _ (.here _)) (by first | omega | (simp only [ints_length, List.length_set]; omega)) ?_)
            refine Run.done ?_
            refine Run.blockEnd ?_
            refine Run.region ?_
            refine Run.p (.int .i64 (((u : Nat) : Int))) rfl rfl ?_
            refine Run.y (.int .i64 (((u : Nat) : Int) - 1)) rfl (OpY.sub rfl rfl (by omega) (by omega) (by omega)) ?_
            refine Run.p (.int .i64 (((u : Nat) : Int) - 1)) rfl rfl ?_
            refine Run.done ?_
            refine Run.goal ⟨(by repeat (first | exact Same.refl _ _ | refine Same.put rfl ?_ | refine Same.over rfl rfl ?_)), (u, (A.set v0 (((u : Nat) : Int))), (L.set v0 (((k : Nat) : Int)))), ?_, ?_, ?_, ?_⟩
            ·first | exact ⟨by omega, hhit⟩ | exact ⟨by omega, hdn.miss hmiss⟩
            ·show u < t; omega
            ·exact ⟨(by first | rfl | (congr 1; omega) | simp), trivial⟩
            ·exact ((Weak.refl _).trans (Some'.weak (.takeEq (by first | rfl | simp) (.takeEq (by first | rfl | simp) (.take (.take (.take (.takeEq (by first | rfl | simp) (.takeEq (by first | rfl | simp) (.nil _))))))))))
           ·have p72 := h72; try simp only [bs] at p72
            have hmiss := gd_miss (es := es) (m := m) (is := is) (ni := ni) (nx := nx) (ly := ly) (n := n) (u := u) (.inr (.inr (.inr (by omega))))
            refine Run.skip ?_
            refine Run.blockEnd ?_
            refine Run.region ?_
            refine Run.p (.int .i64 (((u : Nat) : Int))) rfl rfl ?_
            refine Run.y (.int .i64 (((u : Nat) : Int) - 1)) rfl (OpY.sub rfl rfl (by omega) (by omega) (by omega)) ?_
            refine Run.p (.int .i64 (((u : Nat) : Int) - 1)) rfl rfl ?_
            refine Run.done ?_
            refine Run.goal ⟨(by repeat (first | exact Same.refl _ _ | refine Same.put rfl ?_ | refine Same.over rfl rfl ?_)), (u, A, L), ?_, ?_, ?_, ?_⟩
            ·first | exact ⟨by omega, hhit⟩ | exact ⟨by omega, hdn.miss hmiss⟩
            ·show u < t; omega
            ·exact ⟨(by first | rfl | (congr 1; omega) | simp), trivial⟩
            ·exact ((Weak.refl _).trans (Some'.weak (.takeEq (by first | rfl | simp) (.takeEq (by first | rfl | simp) (.take (.take (.take (.takeEq (by first | rfl | simp) (.takeEq (by first | rfl | simp) (.nil _))))))))))
          ·refine Run.q (v := .bool false) rfl (OpQ.y (OpY.moveB rfl h68)) ?_
           have p68 := h68; try simp only [bs] at p68
           have hmiss := gd_miss (es := es) (m := m) (is := is) (ni := ni) (nx := nx) (ly := ly) (n := n) (.inr (.inr (.inl (show hasI nx (u : Int) n = true by simpa using p68))))
           refine Run.pass rfl ?_
           refine Run.pass rfl ?_
           refine Run.pass rfl ?_
           refine Run.p (.bool false) rfl rfl ?_
           refine Run.done ?_
           refine Run.cond (b := false) rfl (fun h => nomatch h) (fun _ => ?_)
           refine Run.skip ?_
           refine Run.blockEnd ?_
           refine Run.region ?_
           refine Run.p (.int .i64 (((u : Nat) : Int))) rfl rfl ?_
           refine Run.y (.int .i64 (((u : Nat) : Int) - 1)) rfl (OpY.sub rfl rfl (by omega) (by omega) (by omega)) ?_
           refine Run.p (.int .i64 (((u : Nat) : Int) - 1)) rfl rfl ?_
           refine Run.done ?_
           refine Run.goal ⟨(by repeat (first | exact Same.refl _ _ | refine Same.put rfl ?_ | refine Same.over rfl rfl ?_)), (u, A, L), ?_, ?_, ?_, ?_⟩
           ·first | exact ⟨by omega, hhit⟩ | exact ⟨by omega, hdn.miss hmiss⟩
           ·show u < t; omega
           ·exact ⟨(by first | rfl | (congr 1; omega) | simp), trivial⟩
           ·exact ((Weak.refl _).trans (Some'.weak (.takeEq (by first | rfl | simp) (.takeEq (by first | rfl | simp) (.take (.take (.take (.takeEq (by first | rfl | simp) (.takeEq (by first | rfl | simp) (.nil _))))))))))
         ·refine Run.q (v := .bool false) rfl (OpQ.y (OpY.moveB rfl h61)) ?_
          have p61 := h61; try simp only [bs] at p61
          have hmiss := gd_miss (es := es) (m := m) (is := is) (ni := ni) (nx := nx) (ly := ly) (n := n) (.inr (.inl (show hasI is (u : Int) ni = true by simpa using p61)))
          refine Run.pass rfl ?_
          refine Run.pass rfl ?_
          refine Run.pass rfl ?_
          refine Run.pass rfl ?_
          refine Run.pass rfl ?_
          refine Run.p (.bool false) rfl rfl ?_
          refine Run.p (.bool false) rfl rfl ?_
          refine Run.pass rfl ?_
          refine Run.pass rfl ?_
          refine Run.pass rfl ?_
          refine Run.p (.bool false) rfl rfl ?_
          refine Run.done ?_
          refine Run.cond (b := false) rfl (fun h => nomatch h) (fun _ => ?_)
          refine Run.skip ?_
          refine Run.blockEnd ?_
          refine Run.region ?_
          refine Run.p (.int .i64 (((u : Nat) : Int))) rfl rfl ?_
          refine Run.y (.int .i64 (((u : Nat) : Int) - 1)) rfl (OpY.sub rfl rfl (by omega) (by omega) (by omega)) ?_
          refine Run.p (.int .i64 (((u : Nat) : Int) - 1)) rfl rfl ?_
          refine Run.done ?_
          refine Run.goal ⟨(by repeat (first | exact Same.refl _ _ | refine Same.put rfl ?_ | refine Same.over rfl rfl ?_)), (u, A, L), ?_, ?_, ?_, ?_⟩
          ·first | exact ⟨by omega, hhit⟩ | exact ⟨by omega, hdn.miss hmiss⟩
          ·show u < t; omega
          ·exact ⟨(by first | rfl | (congr 1; omega) | simp), trivial⟩
          ·exact ((Weak.refl _).trans (Some'.weak (.takeEq (by first | rfl | simp) (.takeEq (by first | rfl | simp) (.take (.take (.take (.takeEq (by first | rfl | simp) (.takeEq (by first | rfl | simp) (.nil _))))))))))
        ·refine Run.q (v := .bool false) rfl (OpQ.y (OpY.moveB rfl h54)) ?_
         have p54 := h54; try simp only [bs] at p54
         have hmiss := gd_miss (es := es) (m := m) (is := is) (ni := ni) (nx := nx) (.inl (show (unl ly n).testBit u = true from by rw [← bitN]; exact bitI_ne p54))
         refine Run.pass rfl ?_
         refine Run.pass rfl ?_
         refine Run.pass rfl ?_
         refine Run.pass rfl ?_
         refine Run.pass rfl ?_
         refine Run.p (.bool false) rfl rfl ?_
         refine Run.p (.bool false) rfl rfl ?_
         refine Run.pass rfl ?_
         refine Run.pass rfl ?_
         refine Run.pass rfl ?_
         refine Run.pass rfl ?_
         refine Run.pass rfl ?_
         refine Run.p (.bool false) rfl rfl ?_
         refine Run.p (.bool false) rfl rfl ?_
         refine Run.pass rfl ?_
         refine Run.pass rfl ?_
         refine Run.pass rfl ?_
         refine Run.p (.bool false) rfl rfl ?_
         refine Run.done ?_
         refine Run.cond (b := false) rfl (fun h => nomatch h) (fun _ => ?_)
         refine Run.skip ?_
         refine Run.blockEnd ?_
         refine Run.region ?_
         refine Run.p (.int .i64 (((u : Nat) : Int))) rfl rfl ?_
         refine Run.y (.int .i64 (((u : Nat) : Int) - 1)) rfl (OpY.sub rfl rfl (by omega) (by omega) (by omega)) ?_
         refine Run.p (.int .i64 (((u : Nat) : Int) - 1)) rfl rfl ?_
         refine Run.done ?_
         refine Run.goal ⟨(by repeat (first | exact Same.refl _ _ | refine Same.put rfl ?_ | refine Same.over rfl rfl ?_)), (u, A, L), ?_, ?_, ?_, ?_⟩
         ·first | exact ⟨by omega, hhit⟩ | exact ⟨by omega, hdn.miss hmiss⟩
         ·show u < t; omega
         ·exact ⟨(by first | rfl | (congr 1; omega) | simp), trivial⟩
         ·exact ((Weak.refl _).trans (Some'.weak (.takeEq (by first | rfl | simp) (.takeEq (by first | rfl | simp) (.take (.take (.take (.takeEq (by first | rfl | simp) (.takeEq (by first | rfl | simp) (.nil _))))))))))
       ·have p41 := h41; try simp only [bs] at p41
        obtain ⟨htn, hdn⟩ := hinv
        rw [show t = 0 by omega] at hdn
        obtain ⟨hfA, hfL⟩ := hdn.fin hloop.fl hes
        refine Run.exit rfl ?_
        refine Run.seq ?_
        refine Run.sr ?_
        refine Run.p (.slice A_w21 n c_w21) rfl rfl ?_
        refine Run.q (v := .int .i64 (((unl L n : Nat) : Int))) rfl (OpQ.call (vs := [.slice A_w21 n c_w21]) (caps := []) Tcall_27 rfl rfl (fun w hs => unlayered_spec (ly := L) hn10 (hs.slOwn (.tail _ (List.Mem.head _))))) ?_
        refine Run.p (.int .i64 (((unl ly n : Nat) : Int))) rfl rfl ?_
        refine Run.p (.bool ((((unl L n : Nat) : Int)) == (((unl ly n : Nat) : Int)))) rfl rfl ?_
        refine Run.done ?_
        refine Run.cond (b := (((unl L n : Nat) : Int)) == (((unl ly n : Nat) : Int))) rfl (fun h87 => ?_) (fun h87 => ?_)
        ·have p87 := h87; try simp only [bs] at p87
         have hres := cf_none (hloop.none h0 (by rw [← hfL]; omega))
         refine Run.sr ?_
         refine Run.y (.agg #[.slice none 0 0, .slice none 0 0]) rfl (OpY.build (cs := [.slice none 0 0, .slice none 0 0]) (by kernel_rfl)) ?_
         refine Run.step rfl (OpStep.storeAll (us := [.slice none 0 0, .slice none 0 0]) Tsize_29 rfl rfl rfl (.there _ (.there _ (.there _ (.here _)))) rfl ?_)
         refine Run.p (.bool false) rfl rfl ?_
         refine Run.done ?_
         refine Run.ret ?_
         refine ⟨.tuple #[.agg #[.slice none 0 0, .slice none 0 0], .bool false], [.own (.slice none 0 0) 3 1 0 ([]), .own (.slice none 0 0) 3 1 0 ([])], Out.cell2 (cs := [.slice none 0 0, .slice none 0 0]) rfl Tagg_29 rfl (Cells.blk (.tail _ (.tail _ (.tail _ (List.Mem.head _)))) ⟨rfl, rfl, trivial⟩) rfl, ((Weak.nilOwn 3 1).trans ((Weak.nilOwn 3 1).trans (Some'.weak (.take (.take (.nil _)))))), ?_⟩
         exact ⟨_, _, by rw [hres.2.2], by rw [hres.1, hres.2.1]; rfl⟩
        ·have p87 := h87; try simp only [bs] at p87
         have hnext := hloop.next hes h0 (by rw [← hfL]; omega)
         rw [← hfA, ← hfL] at hnext
         refine Run.skip ?_
         refine Run.region ?_
         refine Run.p (.slice A_w11 n c_w11) rfl rfl ?_
         refine Run.p (.slice A_w21 n c_w21) rfl rfl ?_
         refine Run.y (.agg #[.slice A_w11 n c_w11, .slice A_w21 n c_w21]) rfl (OpY.build (cs := [.slice A_w11 n c_w11, .slice A_w21 n c_w21]) (by kernel_rfl)) ?_
         refine Run.step rfl (OpStep.storeAll (us := [.slice A_w11 n c_w11, .slice A_w21 n c_w21]) Tsize_29 rfl rfl rfl (.there _ (.there _ (.here _))) rfl ?_)
         refine Run.done ?_
         refine Run.blockEnd ?_
         refine Run.region ?_
         refine Run.p (.int .i64 (((k : Nat) : Int))) rfl rfl ?_
         refine Run.y (.int .i64 (((k + 1 : Nat) : Int))) rfl (OpY.add rfl rfl (by omega) (by omega) (by omega)) ?_
         refine Run.p (.int .i64 (((k + 1 : Nat) : Int))) rfl rfl ?_
         refine Run.done ?_
         refine Run.goal ⟨(by repeat (first | exact Same.refl _ _ | refine Same.put rfl ?_ | refine Same.over rfl rfl ?_)), (f2, k + 1, A, L, .slice A_w11 n c_w11, .slice A_w21 n c_w21), ?_, ?_, ?_, ?_⟩
         ·exact hnext
         ·show f2 < f2 + 1; omega
         ·exact ⟨(by show Value.int _ _ = Value.int _ _; congr 1), trivial⟩
         ·exact ((Weak.selF [2, 2, 2, 0, 0]).trans (Some'.weak (.takeEq (by first | rfl | simp) (.take (.take (.takeEq (by first | rfl | simp) (.takeEq (by first | rfl | simp) (.nil _))))))))

set_option maxHeartbeats 2000000 in
set_option maxRecDepth 20000 in
theorem l19Causal_spec {ve vi vo : Value} {n m ni no : Nat} {es is os : List Int} {w : World} (he : Sl w ve 2 m (ints es)) (hi : Sl w vi 1 ni (ints is)) (ho : Sl w vo 1 no (ints os)) (hg : ogB n es m is ni os no = true) : Calls Try.prog 33 #[.agg #[.int .i64 (n : Int), ve, vi, vo]] w (Post No w fun v H => ∃ u1 u2, v = .tuple #[.agg #[u1, u2], .bool (cfO es m n is ni os no).isSome] ∧ H = [.own u1 3 1 (cfA es m n is ni os no).length (ints (cfA es m n is ni os no)), .own u2 3 1 (cfL es m n is ni os no).length (ints (cfL es m n is ni os no))]) := by
 obtain ⟨hn1, hn10, hes, hri, hro⟩ := og_ok hg
 have hp10 := pow10 hn10
 refine enter (n := 104) (args := [.agg #[.int .i64 (((n : Nat) : Int)), ve, vi, vo]]) Try.func33 rfl rfl (St.empty _ _) ?_
 refine Run.sr ?_
 refine Run.step rfl (OpStep.box (us := [.int .i64 (((n : Nat) : Int)), ve, vi, vo]) rfl fun b1 => ?_)
 refine Run.step rfl (OpStep.alloc (zs := [.slice none 0 0, .slice none 0 0]) Tzero_29 fun b2 => ?_)
 refine Run.p (.bool false) rfl rfl ?_
 refine Run.dsr ?_
 refine Run.y (.agg #[.int .i64 (((n : Nat) : Int)), ve, vi, vo]) rfl (OpY.loadN (cs := [.int .i64 (((n : Nat) : Int)), ve, vi, vo]) Tagg_26 rfl (Cells.blk (.tail _ (List.Mem.head _)) ⟨rfl, rfl, rfl, rfl, trivial⟩)) ?_
 refine Run.step rfl (OpStep.call (vs := [.agg #[.int .i64 (((n : Nat) : Int)), ve, vi, vo]]) (caps := []) Tcall_57 rfl rfl (fun w hs => l19Start_spec (ve := ve) (vi := vi) hn1 hn10 (hs.sl ho)) ?_)
 rintro uf _ rfl
 show Run _ _ (putF _ _ _ uf) [.own uf 3 1 n (ints (ly0 os no n)), .blk b2 29 [.slice none 0 0, .slice none 0 0], .blk b1 26 [.int .i64 (((n : Nat) : Int)), ve, vi, vo]]
 refine Run.formOwn (.head _) (fun A_uf1 c_uf1 hv hcapc_uf1 hmaxc_uf1 => ?_) (fun _ _ _ => ⟨nofun, nofun, nofun⟩)
 subst hv
 refine Run.y (.agg #[.slice none 0 0, .slice A_uf1 n c_uf1]) rfl (OpY.build (cs := [.slice none 0 0, .slice A_uf1 n c_uf1]) (by kernel_rfl)) ?_
 refine Run.step rfl (OpStep.alloc (zs := [.slice none 0 0, .slice none 0 0]) Tzero_29 fun b3 => ?_)
 refine Run.step rfl (OpStep.storeAll (us := [.slice none 0 0, .slice A_uf1 n c_uf1]) Tsize_29 rfl rfl rfl (.here _) rfl ?_)
 refine Run.done ?_
 refine Run.seq ?_
 refine Run.sr ?_
 refine Run.p (.int .i64 0) rfl rfl ?_
 refine Run.done ?_
 refine Run.weak (H' := [.own (.slice none 0 0) 3 1 0 ([]), .blk b3 29 [.slice none 0 0, .slice A_uf1 n c_uf1], .own (.slice A_uf1 n c_uf1) 3 1 n (ints (ly0 os no n)), .blk b2 29 [.slice none 0 0, .slice none 0 0], .blk b1 26 [.int .i64 (((n : Nat) : Int)), ve, vi, vo]]) (Weak.nilOwn _ _) ?_ ⟨_, _, rfl, fun _ => nofun, fun _ => nofun⟩
 refine Run.block ?_
 refine Run.loop (ι := Nat × Value) [5, 15, 16, 17, 18, 19, 20, 21, 22, 23, 24, 25] (fun ⟨q, vq⟩ => [(5, .int .i64 (((q : Nat) : Int)))]) (fun ⟨q, vq⟩ => [.own vq 3 1 q (ints (List.replicate q (-1))), .blk b3 29 [vq, .slice A_uf1 n c_uf1], .own (.slice A_uf1 n c_uf1) 3 1 n (ints (ly0 os no n)), .blk b2 29 [.slice none 0 0, .slice none 0 0], .blk b1 26 [.int .i64 (((n : Nat) : Int)), ve, vi, vo]]) (fun ⟨q, vq⟩ => q ≤ n) (fun ⟨q, vq⟩ => n - q) (0, .slice none 0 0) ?_ ?_ ?_ ?_
 ·exact Nat.zero_le _
 ·exact ⟨rfl, trivial⟩
 ·exact ((Weak.refl _).trans (Some'.weak (.takeEq (by first | rfl | simp) (.takeEq (by first | rfl | simp) (.take (.take (.take (.nil _))))))))
 ·rintro ⟨q, vq⟩ fr hinv
  show Run _ _ (over _ _ [(5, .int .i64 (((q : Nat) : Int)))] fr) [.own vq 3 1 q (ints (List.replicate q (-1))), .blk b3 29 [vq, .slice A_uf1 n c_uf1], .own (.slice A_uf1 n c_uf1) 3 1 n (ints (ly0 os no n)), .blk b2 29 [.slice none 0 0, .slice none 0 0], .blk b1 26 [.int .i64 (((n : Nat) : Int)), ve, vi, vo]]
  try dsimp only at hinv
  refine Run.seq ?_
  refine Run.sr ?_
  refine Run.p (.int .i64 (((q : Nat) : Int))) rfl rfl ?_
  refine Run.y (.pointer (some ⟨b1, 0, none⟩)) rfl (OpY.fieldAddr Tfo_26_0 rfl rfl) ?_
  refine Run.y (.int .i64 (((n : Nat) : Int))) rfl (OpY.load1 Tone_3 rfl (Cells.blk (.tail _ (.tail _ (.tail _ (.tail _ (List.Mem.head _))))) ⟨rfl, trivial⟩)) ?_
  refine Run.p (.bool (decide ((((q : Nat) : Int)) < (((n : Nat) : Int))))) rfl rfl ?_
  refine Run.done ?_
  refine Run.cond (b := decide ((((q : Nat) : Int)) < (((n : Nat) : Int)))) rfl (fun h18 => ?_) (fun h18 => ?_)
  ·have p18 := h18; try simp only [bs] at p18
   have hqn : q < n := by omega
   refine Run.skip ?_
   refine Run.seq ?_
   refine Run.block ?_
   refine Run.region ?_
   refine Run.y (.pointer (some ⟨b3, 0, none⟩)) rfl (OpY.fieldAddr Tfo_29_0 rfl rfl) ?_
   refine Run.y (vq) rfl (OpY.load1 Tone_24 rfl (Cells.blk (.tail _ (List.Mem.head _)) ⟨rfl, trivial⟩)) ?_
   refine Run.step rfl (OpStep.buildSlice (us := [.int .i64 (-1)]) Tsl_24 (by decide) (by decide) ⟨rfl, [.int .i64 (-1)], _, rfl, rfl, rfl, rfl⟩ rfl fun b4 => ?_)
   refine Run.step rfl (OpStep.append (H1 := [.own (.slice (some ⟨b4, 0, none⟩) 1 1) 3 1 1 ([.int .i64 (-1)])]) (H2 := [.blk b3 29 [vq, .slice A_uf1 n c_uf1], .own (.slice A_uf1 n c_uf1) 3 1 n (ints (ly0 os no n)), .blk b2 29 [.slice none 0 0, .slice none 0 0], .blk b1 26 [.int .i64 (((n : Nat) : Int)), ve, vi, vo]]) (v := vq) (u := .slice (some ⟨b4, 0, none⟩) 1 1) (n := q) (m := 1) (xs := ints (List.replicate q (-1))) (ys := [.int .i64 (-1)]) Tsl_24 (by decide) rfl rfl rfl rfl (fun w hs => hs.slOwn (.head _)) (by simp [Value.oneCell']) (by omega) (by simp only [maxLen]; omega) fun av1 hnav1 => ?_)
   refine Run.weak (H' := [.own (.slice (some ⟨b4, 0, none⟩) 1 1) 3 1 1 ([.int .i64 (-1)]), .own av1 3 1 (q + 1) (ints (List.replicate (q + 1) (-1))), .blk b3 29 [vq, .slice A_uf1 n c_uf1], .own (.slice A_uf1 n c_uf1) 3 1 n (ints (ly0 os no n)), .blk b2 29 [.slice none 0 0, .slice none 0 0], .blk b1 26 [.int .i64 (((n : Nat) : Int)), ve, vi, vo]]) (Some'.weak (.take (.takeEq (by rw [List.replicate_succ', ints_append]; rfl) (.take (.take (.take (.take (.nil _)))))))) ?_ ⟨_, _, rfl, fun _ => nofun, fun _ => nofun⟩
   refine Run.y (.pointer (some ⟨b3, 0, none⟩)) rfl (OpY.fieldAddr Tfo_29_0 rfl rfl) ?_
   refine Run.formOwn (.tail _ (List.Mem.head _)) (fun A_av11 c_av11 hv hcapc_av11 hmaxc_av11 => ?_) (fun _ _ _ => ⟨nofun, nofun, nofun⟩)
   subst hv
   refine Run.step rfl (OpStep.store (us := [.slice A_av11 (q + 1) c_av11]) Tsize_24 rfl rfl rfl (.there _ (.there _ (.here _))) (by simp only [List.length_cons, List.length_nil]; omega) ?_)
   show Run _ _ _ [.own (.slice (some ⟨b4, 0, none⟩) 1 1) 3 1 1 ([.int .i64 (-1)]), .own (.slice A_av11 (q + 1) c_av11) 3 1 (q + 1) (ints (List.replicate (q + 1) (-1))), .blk b3 29 [.slice A_av11 (q + 1) c_av11, .slice A_uf1 n c_uf1], .own (.slice A_uf1 n c_uf1) 3 1 n (ints (ly0 os no n)), .blk b2 29 [.slice none 0 0, .slice none 0 0], .blk b1 26 [.int .i64 (((n : Nat) : Int)), ve, vi, vo]]
   refine Run.done ?_
   refine Run.blockEnd ?_
   refine Run.region ?_
   refine Run.p (.int .i64 (((q : Nat) : Int))) rfl rfl ?_
   refine Run.y (.int .i64 ((((q : Nat) : Int)) + 1)) rfl (OpY.add rfl rfl rfl (by omega) (by omega)) ?_
   refine Run.p (.int .i64 ((((q : Nat) : Int)) + 1)) rfl rfl ?_
   refine Run.done ?_
   refine Run.goal ⟨(by repeat (first | exact Same.refl _ _ | refine Same.put rfl ?_ | refine Same.over rfl rfl ?_)), (q + 1, .slice A_av11 (q + 1) c_av11), ?_, ?_, ?_, ?_⟩
   ·show q + 1 ≤ n; omega
   ·show n - (q + 1) < n - q; omega
   ·exact ⟨(by first | rfl | (congr 1; omega) | simp), trivial⟩
   ·exact ((Weak.selF [1, 1, 1, 1, 1]).trans (Some'.weak (.takeEq (by first | rfl | simp) (.takeEq (by first | rfl | simp) (.takeEq (by first | rfl | simp) (.take (.take (.nil _))))))))
  ·have p18 := h18; try simp only [bs] at p18
   have hqn : q = n := by omega
   refine Run.exit rfl ?_
   refine Run.sr ?_
   refine Run.p (.int .i64 1) rfl rfl ?_
   refine Run.done ?_
   refine Run.block ?_
   refine Run.loop (ι := Nat × Nat × List Int × List Int × Value × Value) ([3, 6, 7, 8, 9, 10, 11, 26, 27, 28, 29, 30, 31, 32, 33, 34, 35, 36, 37, 38, 39, 40, 41, 42, 43, 44, 45, 46, 47, 48, 49, 50, 51, 52, 53, 54, 55, 56, 57, 58, 59, 60, 61, 62, 63, 64, 65, 66, 67, 68] ++ [69, 70, 71, 72, 73, 74, 75, 76, 77, 78, 79, 80, 81, 82, 83, 84, 85, 86, 87, 88, 89, 90, 91, 92, 93, 94, 95, 96, 97, 98, 99, 100, 101, 102, 103]) (fun ⟨f, k, nx, ly, v1, v2⟩ => [(6, .int .i64 (((k : Nat) : Int)))]) (fun ⟨f, k, nx, ly, v1, v2⟩ => [.blk b3 29 [v1, v2], .blk b2 29 [.slice none 0 0, .slice none 0 0], .blk b1 26 [.int .i64 (((n : Nat) : Int)), ve, vi, vo], .own v1 3 1 n (ints nx), .own v2 3 1 n (ints ly)]) (fun ⟨f, k, nx, ly, v1, v2⟩ => CfI es m n is ni os no f k nx ly) (fun ⟨f, k, nx, ly, v1, v2⟩ => f) (n + 1, 1, List.replicate n (-1), ly0 os no n, vq, .slice A_uf1 n c_uf1) ?_ ?_ ?_ ?_
   ·exact CfI.start hg
   ·exact ⟨rfl, trivial⟩
   ·exact ((Weak.selF [1, 2, 2, 0, 0]).trans (Some'.weak (.takeEq (by first | rfl | (rw [hqn]) | simp) (.take (.take (.takeEq (by first | rfl | (rw [hqn]) | simp) (.takeEq (by first | rfl | (rw [hqn]) | simp) (.nil _))))))))
   ·rintro ⟨f, k, nx, ly, v1, v2⟩ fr hinv
    show Run _ _ (over _ _ [(6, .int .i64 (((k : Nat) : Int)))] fr) [.blk b3 29 [v1, v2], .blk b2 29 [.slice none 0 0, .slice none 0 0], .blk b1 26 [.int .i64 (((n : Nat) : Int)), ve, vi, vo], .own v1 3 1 n (ints nx), .own v2 3 1 n (ints ly)]
    try dsimp only at hinv
    obtain ⟨f2, rfl⟩ : ∃ f2, f = f2 + 1 := ⟨f - 1, by have := hinv.cnt; omega⟩
    have hnl := hinv.fl.ln
    have hll := hinv.fl.ll
    have hkf := hinv.kf
    have hk1 := hinv.k1
    have hul := unl_lt ly n
    have hloop := hinv
    refine Run.seq ?_
    refine Run.block ?_
    refine Run.sr ?_
    refine Run.y (.pointer (some ⟨b3, 1, none⟩)) rfl (OpY.fieldAddr Tfo_29_1 rfl rfl) ?_
    refine Run.y (v2) rfl (OpY.load1 Tone_24 rfl (Cells.blk (.head _) ⟨rfl, trivial⟩)) ?_
    refine Run.q (v := .int .i64 (((unl ly n : Nat) : Int))) rfl (OpQ.call (vs := [v2]) (caps := []) Tcall_58 rfl rfl (fun w hs => l19Open_spec (ly := ly) hn10 (hs.slOwn (.tail _ (.tail _ (.tail _ (.tail _ (List.Mem.head _)))))))) ?_
    refine Run.p (.int .i64 (((unl ly n : Nat) : Int))) rfl rfl ?_
    refine Run.done ?_
    refine Run.seq ?_
    refine Run.sr ?_
    refine Run.p (.int .i64 (((unl ly n : Nat) : Int))) rfl rfl ?_
    refine Run.p (.bool ((((unl ly n : Nat) : Int)) == 0)) rfl rfl ?_
    refine Run.done ?_
    refine Run.cond (b := (((unl ly n : Nat) : Int)) == 0) rfl (fun h32 => ?_) (fun h32 => ?_)
    ·have p32 := h32; try simp only [bs] at p32
     have hres := cf_some (hinv.stop (by omega))
     refine Run.sr ?_
     refine Run.y (.agg #[v1, v2]) rfl (OpY.loadN (cs := [v1, v2]) Tagg_29 rfl (Cells.blk (.head _) ⟨rfl, rfl, trivial⟩)) ?_
     refine Run.formOwn (.tail _ (.tail _ (.tail _ (List.Mem.head _)))) (fun A_v11 c_v11 hv hcapc_v11 hmaxc_v11 => ?_) (fun _ _ _ => ⟨nofun, nofun, nofun⟩)
     subst hv
     refine Run.formOwn (.tail _ (.tail _ (.tail _ (.tail _ (List.Mem.head _))))) (fun A_v21 c_v21 hv hcapc_v21 hmaxc_v21 => ?_) (fun _ _ _ => ⟨nofun, nofun, nofun⟩)
     subst hv
     refine Run.step rfl (OpStep.storeAll (us := [.slice A_v11 n c_v11, .slice A_v21 n c_v21]) Tsize_29 rfl rfl rfl (.there _ (.here _)) rfl ?_)
     refine Run.p (.bool true) rfl rfl ?_
     refine Run.done ?_
     refine Run.ret ?_
     refine ⟨.tuple #[.agg #[.slice A_v11 n c_v11, .slice A_v21 n c_v21], .bool true], [.own (.slice A_v11 n c_v11) 3 1 n (ints nx), .own (.slice A_v21 n c_v21) 3 1 n (ints ly)], Out.cell2 (cs := [.slice A_v11 n c_v11, .slice A_v21 n c_v21]) rfl Tagg_29 rfl (Cells.blk (.tail _ (List.Mem.head _)) ⟨rfl, rfl, trivial⟩) rfl, (Some'.weak (.skip (.skip (.skip (.take (.take (.nil _))))))), ?_⟩
     exact ⟨_, _, by rw [hres.2.2], by rw [hres.1, hres.2.1, hnl, hll]⟩
    ·have p32 := h32; try simp only [bs] at p32
     have h0 : unl ly n ≠ 0 := by omega
     refine Run.skip ?_
     refine Run.sr ?_
     refine Run.y (.pointer (some ⟨b3, 0, none⟩)) rfl (OpY.fieldAddr Tfo_29_0 rfl rfl) ?_
     refine Run.y (v1) rfl (OpY.load1 Tone_24 rfl (Cells.blk (.head _) ⟨rfl, trivial⟩)) ?_
     refine Run.step rfl (OpStep.call (vs := [v1]) (caps := []) Tcall_59 rfl rfl (fun w hs => l1Own_spec (by omega) (hs.slOwn (.tail _ (.tail _ (.tail _ (List.Mem.head _)))))) ?_)
     rintro uw1 _ rfl
     show Run _ _ (putF _ _ _ uw1) [.own uw1 3 1 n (ints nx), .blk b3 29 [v1, v2], .blk b2 29 [.slice none 0 0, .slice none 0 0], .blk b1 26 [.int .i64 (((n : Nat) : Int)), ve, vi, vo], .own v1 3 1 n (ints nx), .own v2 3 1 n (ints ly)]
     refine Run.p (uw1) rfl rfl ?_
     refine Run.dsr ?_
     refine Run.y (.pointer (some ⟨b3, 1, none⟩)) rfl (OpY.fieldAddr Tfo_29_1 rfl rfl) ?_
     refine Run.y (v2) rfl (OpY.load1 Tone_24 rfl (Cells.blk (.tail _ (List.Mem.head _)) ⟨rfl, trivial⟩)) ?_
     refine Run.step rfl (OpStep.call (vs := [v2]) (caps := []) Tcall_59 rfl rfl (fun w hs => l1Own_spec (by omega) (hs.slOwn (.tail _ (.tail _ (.tail _ (.tail _ (.tail _ (List.Mem.head _)))))))) ?_)
     rintro uw2 _ rfl
     show Run _ _ (putF _ _ _ uw2) [.own uw2 3 1 n (ints ly), .own uw1 3 1 n (ints nx), .blk b3 29 [v1, v2], .blk b2 29 [.slice none 0 0, .slice none 0 0], .blk b1 26 [.int .i64 (((n : Nat) : Int)), ve, vi, vo], .own v1 3 1 n (ints nx), .own v2 3 1 n (ints ly)]
     refine Run.p (uw2) rfl rfl ?_
     refine Run.done ?_
     refine Run.seq ?_
     refine Run.sr ?_
     refine Run.p (.int .i64 0) rfl rfl ?_
     refine Run.done ?_
     refine Run.formOwn (.tail _ (List.Mem.head _)) (fun A_uw11 c_uw11 hv hcapc_uw11 hmaxc_uw11 => ?_) (fun _ _ _ => ⟨nofun, nofun, nofun⟩)
     subst hv
     refine Run.formOwn (.head _) (fun A_uw21 c_uw21 hv hcapc_uw21 hmaxc_uw21 => ?_) (fun _ _ _ => ⟨nofun, nofun, nofun⟩)
     subst hv
     refine Run.block ?_
     refine Run.loop (ι := Nat × List Int × List Int) ([10, 11, 40, 41, 42, 43, 44, 45, 46, 47, 48, 49, 50, 51, 52, 53, 54, 55, 56, 57, 58, 59, 60, 61, 62, 63, 64, 65, 66, 67, 68, 69, 70, 71, 72, 73, 74, 75, 76, 77, 78, 79, 80, 81, 82, 83, 84, 85, 86, 87] ++ [88, 89, 90, 91, 92, 93, 94, 95]) (fun ⟨u, A, L⟩ => [(10, .int .i64 (((u : Nat) : Int)))]) (fun ⟨u, A, L⟩ => [.own (.slice A_uw11 n c_uw11) 3 1 n (ints A), .own (.slice A_uw21 n c_uw21) 3 1 n (ints L), .blk b3 29 [v1, v2], .blk b2 29 [.slice none 0 0, .slice none 0 0], .blk b1 26 [.int .i64 (((n : Nat) : Int)), ve, vi, vo], .own v1 3 1 n (ints nx), .own v2 3 1 n (ints ly)]) (fun ⟨u, A, L⟩ => u ≤ n ∧ UpI (gdB es m n is ni nx ly) n u k nx ly A L) (fun ⟨u, A, L⟩ => n - u) (0, nx, ly) ?_ ?_ ?_ ?_
     ·exact ⟨Nat.zero_le _, UpI.start hnl hll⟩
     ·exact ⟨rfl, trivial⟩
     ·exact ((Weak.selF [1, 0, 0, 0, 0, 0, 0]).trans (Some'.weak (.takeEq (by first | rfl | simp) (.takeEq (by first | rfl | simp) (.take (.take (.take (.take (.take (.nil _))))))))))
     ·rintro ⟨u, A, L⟩ fr hinv
      show Run _ _ (over _ _ [(10, .int .i64 (((u : Nat) : Int)))] fr) [.own (.slice A_uw11 n c_uw11) 3 1 n (ints A), .own (.slice A_uw21 n c_uw21) 3 1 n (ints L), .blk b3 29 [v1, v2], .blk b2 29 [.slice none 0 0, .slice none 0 0], .blk b1 26 [.int .i64 (((n : Nat) : Int)), ve, vi, vo], .own v1 3 1 n (ints nx), .own v2 3 1 n (ints ly)]
      try dsimp only at hinv
      refine Run.seq ?_
      refine Run.sr ?_
      refine Run.p (.int .i64 (((u : Nat) : Int))) rfl rfl ?_
      refine Run.y (.pointer (some ⟨b1, 0, none⟩)) rfl (OpY.fieldAddr Tfo_26_0 rfl rfl) ?_
      refine Run.y (.int .i64 (((n : Nat) : Int))) rfl (OpY.load1 Tone_3 rfl (Cells.blk (.tail _ (.tail _ (.tail _ (.tail _ (List.Mem.head _))))) ⟨rfl, trivial⟩)) ?_
      refine Run.p (.bool (decide ((((u : Nat) : Int)) < (((n : Nat) : Int))))) rfl rfl ?_
      refine Run.done ?_
      refine Run.cond (b := decide ((((u : Nat) : Int)) < (((n : Nat) : Int)))) rfl (fun h43 => ?_) (fun h43 => ?_)
      ·have p43 := h43; try simp only [bs] at p43
       obtain ⟨hun0, hup⟩ := hinv
       have hun : u < n := by omega
       have hAl := hup.la
       have hLl := hup.ll
       have hng := ng_lt hes u m (Nat.le_refl m)
       have hal : ngK es u m &&& unl ly n < 2 ^ n := Nat.lt_of_le_of_lt Nat.and_le_left hng
       refine Run.openOwn (.tail _ (.tail _ (.tail _ (.tail _ (.tail _ (.tail _ (List.Mem.head _))))))) (by omega) (fun gv cgv hvgv hcapgv _ => ?_) (fun _ _ _ => ⟨nofun, nofun, nofun⟩)
       subst hvgv
       refine Run.skip ?_
       refine Run.seq ?_
       refine Run.block ?_
       refine Run.sr ?_
       refine Run.y (.agg #[.int .i64 (((n : Nat) : Int)), ve, vi, vo]) rfl (OpY.loadN (cs := [.int .i64 (((n : Nat) : Int)), ve, vi, vo]) Tagg_26 rfl (Cells.blk (.tail _ (.tail _ (.tail _ (.tail _ (List.Mem.head _))))) ⟨rfl, rfl, rfl, rfl, trivial⟩)) ?_
       refine Run.p (.int .i64 (((u : Nat) : Int))) rfl rfl ?_
       refine Run.q (v := .int .i64 (((ngK es u m : Nat) : Int))) rfl (OpQ.call (vs := [.agg #[.int .i64 (((n : Nat) : Int)), ve, vi, vo], .int .i64 (((u : Nat) : Int))]) (caps := []) Tcall_61 rfl rfl (fun w hs => l19Near_spec (v := u) hn10 hes (hs.sl he))) ?_
       refine Run.p (.int .i64 (((unl ly n : Nat) : Int))) rfl rfl ?_
       refine Run.y (.int .i64 (((ngK es u m &&& unl ly n : Nat) : Int))) rfl (OpY.andNat2 rfl rfl (by omega) (by omega)) ?_
       refine Run.step rfl (OpStep.call (vs := [.int .i64 (((ngK es u m &&& unl ly n : Nat) : Int))]) (caps := []) Tcall_60 rfl rfl (fun w hs => (by have h := l1Set_spec (x := ((ngK es u m &&& unl ly n : Nat) : Int)) (w := w) (by omega) (by omega); rw [setL_nat hal (by omega)] at h; exact h)) ?_)
       rintro us _ ⟨hs24, rfl⟩
       show Run _ _ (putF _ _ _ us) [.own us 3 1 ((setN (ngK es u m &&& unl ly n) n).length) (ints (setN (ngK es u m &&& unl ly n) n)), .own (.slice A_uw11 n c_uw11) 3 1 n (ints A), .own (.slice A_uw21 n c_uw21) 3 1 n (ints L), .blk b3 29 [v1, .slice (some ⟨gv, 0, none⟩) n cgv], .blk b2 29 [.slice none 0 0, .slice none 0 0], .blk b1 26 [.int .i64 (((n : Nat) : Int)), ve, vi, vo], .own v1 3 1 n (ints nx), .own (.slice (some ⟨gv, 0, none⟩) n cgv) 3 1 n (ints ly)]
       refine Run.p (us) rfl rfl ?_
       refine Run.done ?_
       refine Run.seq ?_
       refine Run.sr ?_
       refine Run.y (.pointer (some ⟨b3, 1, none⟩)) rfl (OpY.fieldAddr Tfo_29_1 rfl rfl) ?_
       refine Run.y (.slice (some ⟨gv, 0, none⟩) n cgv) rfl (OpY.load1 Tone_24 rfl (Cells.blk (.tail _ (.tail _ (.tail _ (List.Mem.head _)))) ⟨rfl, trivial⟩)) ?_
       refine Run.p (.int .i64 (((u : Nat) : Int))) rfl rfl ?_
       refine Run.y (.pointer (some ⟨gv, u, none⟩)) rfl (OpY.index (kk := u) Tsl_24 rfl rfl (by omega) (by omega) (by first | rfl | omega)) ?_
       refine Run.y (.int .i64 (ix ly (u))) rfl (OpY.load1 Tone_3 rfl (Cells.own0 (.tail _ (.tail _ (.tail _ (.tail _ (.tail _ (.tail _ (.tail _ (List.Mem.head _)))))))) (pre1 (by first | omega | (simp only [ints_length, List.length_set]; omega))))) ?_
       refine Run.p (.bool (decide ((ix ly (u)) < 0))) rfl rfl ?_
       rcases Bool.eq_false_or_eq_true (decide ((ix ly (u)) < 0)) with h58 | h58
       ·refine Run.q (v := .bool true) rfl (OpQ.y (OpY.moveB rfl h58)) ?_
        have p58 := h58; try simp only [bs] at p58
        have hmiss2 := gd_miss (es := es) (m := m) (is := is) (ni := ni) (nx := nx) (ly := ly) (n := n) (u := u) (.inl (by rw [unl_neg hun]; exact decide_eq_true p58))
        have hmiss : ∀ w, w < n → gdB es m n is ni nx ly u w = true → 0 ≤ ix L w ∧ ix ly w < 0 := fun w hw h => by rw [hmiss2 w hw] at h; cases h
        refine Run.pass rfl ?_
        refine Run.pass rfl ?_
        refine Run.pass rfl ?_
        refine Run.pass rfl ?_
        refine Run.p (.bool true) rfl rfl ?_
        refine Run.p (.bool true) rfl rfl ?_
        refine Run.pass rfl ?_
        refine Run.pass rfl ?_
        refine Run.pass rfl ?_
        refine Run.pass rfl ?_
        refine Run.p (.bool true) rfl rfl ?_
        refine Run.p (.bool true) rfl rfl ?_
        refine Run.pass rfl ?_
        refine Run.pass rfl ?_
        refine Run.pass rfl ?_
        refine Run.p (.bool true) rfl rfl ?_
        refine Run.p (.bool true) rfl rfl ?_
        refine Run.pass rfl ?_
        refine Run.pass rfl ?_
        refine Run.pass rfl ?_
        refine Run.pass rfl ?_
        refine Run.pass rfl ?_
        refine Run.pass rfl ?_
        refine Run.pass rfl ?_
        refine Run.p (.bool true) rfl rfl ?_
        refine Run.done ?_
        refine Run.cond (b := true) rfl (fun _ => ?_) (fun h => nomatch h)
        refine Run.exit rfl ?_
        refine Run.region ?_
        refine Run.p (.int .i64 (((u : Nat) : Int))) rfl rfl ?_
        refine Run.y (.int .i64 (((u + 1 : Nat) : Int))) rfl (OpY.add rfl rfl (by omega) (by omega) (by omega)) ?_
        refine Run.p (.int .i64 (((u + 1 : Nat) : Int))) rfl rfl ?_
        refine Run.done ?_
        refine Run.goal ⟨(by repeat (first | exact Same.refl _ _ | refine Same.put rfl ?_ | refine Same.over rfl rfl ?_)), (u + 1, A, L), ?_, ?_, ?_, ?_⟩
        ·first | exact ⟨by omega, hhit⟩ | exact ⟨by omega, hup.miss hmiss⟩
        ·show n - (u + 1) < n - u; omega
        ·exact ⟨(by first | rfl | (congr 1; omega) | simp), trivial⟩
        ·exact ((Weak.selF [1, 1, 1, 1, 1, 1, 1]).trans (Some'.weak (.takeEq (by first | rfl | simp) (.takeEq (by first | rfl | simp) (.takeEq (by first | rfl | simp) (.take (.take (.takeEq (by first | rfl | simp) (.takeEq (by first | rfl | simp) (.nil _))))))))))
       ·refine Run.q (v := .bool false) rfl (OpQ.y (OpY.moveB rfl h58)) ?_
        have p58 := h58; try simp only [bs] at p58
        have hz1 : (unl ly n).testBit u = false := by rw [unl_neg hun]; exact decide_eq_false (by omega)
        refine Run.y (.pointer (some ⟨b1, 2, none⟩)) rfl (OpY.fieldAddr Tfo_26_2 rfl rfl) ?_
        refine Run.y (vi) rfl (OpY.load1 Tone_24 rfl (Cells.blk (.tail _ (.tail _ (.tail _ (.tail _ (.tail _ (List.Mem.head _)))))) ⟨rfl, trivial⟩)) ?_
        refine Run.p (.int .i64 (((u : Nat) : Int))) rfl rfl ?_
        refine Run.q (v := .bool (hasI is (u : Int) ni)) rfl (OpQ.call (vs := [vi, .int .i64 (((u : Nat) : Int))]) (caps := []) Tcall_62 rfl rfl (fun w hs => (by have h := l1Has_spec (x := ((u : Nat) : Int)) (hs.sl hi); exact h))) ?_
        refine Run.p (.bool (hasI is (u : Int) ni)) rfl rfl ?_
        rcases Bool.eq_false_or_eq_true (hasI is (u : Int) ni) with h64 | h64
        ·refine Run.q (v := .bool true) rfl (OpQ.y (OpY.moveB rfl h64)) ?_
         have p64 := h64; try simp only [bs] at p64
         have hmiss2 := gd_miss (es := es) (m := m) (is := is) (ni := ni) (nx := nx) (ly := ly) (n := n) (u := u) (.inr (.inl (by simpa using p64)))
         have hmiss : ∀ w, w < n → gdB es m n is ni nx ly u w = true → 0 ≤ ix L w ∧ ix ly w < 0 := fun w hw h => by rw [hmiss2 w hw] at h; cases h
         refine Run.pass rfl ?_
         refine Run.pass rfl ?_
         refine Run.pass rfl ?_
         refine Run.pass rfl ?_
         refine Run.p (.bool true) rfl rfl ?_
         refine Run.p (.bool true) rfl rfl ?_
         refine Run.pass rfl ?_
         refine Run.pass rfl ?_
         refine Run.pass rfl ?_
         refine Run.p (.bool true) rfl rfl ?_
         refine Run.p (.bool true) rfl rfl ?_
         refine Run.pass rfl ?_
         refine Run.pass rfl ?_
         refine Run.pass rfl ?_
         refine Run.pass rfl ?_
         refine Run.pass rfl ?_
         refine Run.pass rfl ?_
         refine Run.pass rfl ?_
         refine Run.p (.bool true) rfl rfl ?_
         refine Run.done ?_
         refine Run.cond (b := true) rfl (fun _ => ?_) (fun h => nomatch h)
         refine Run.exit rfl ?_
         refine Run.region ?_
         refine Run.p (.int .i64 (((u : Nat) : Int))) rfl rfl ?_
         refine Run.y (.int .i64 (((u + 1 : Nat) : Int))) rfl (OpY.add rfl rfl (by omega) (by omega) (by omega)) ?_
         refine Run.p (.int .i64 (((u + 1 : Nat) : Int))) rfl rfl ?_
         refine Run.done ?_
         refine Run.goal ⟨(by repeat (first | exact Same.refl _ _ | refine Same.put rfl ?_ | refine Same.over rfl rfl ?_)), (u + 1, A, L), ?_, ?_, ?_, ?_⟩
         ·first | exact ⟨by omega, hhit⟩ | exact ⟨by omega, hup.miss hmiss⟩
         ·show n - (u + 1) < n - u; omega
         ·exact ⟨(by first | rfl | (congr 1; omega) | simp), trivial⟩
         ·exact ((Weak.selF [1, 1, 1, 1, 1, 1, 1]).trans (Some'.weak (.takeEq (by first | rfl | simp) (.takeEq (by first | rfl | simp) (.takeEq (by first | rfl | simp) (.take (.take (.takeEq (by first | rfl | simp) (.takeEq (by first | rfl | simp) (.nil _))))))))))
        ·refine Run.q (v := .bool false) rfl (OpQ.y (OpY.moveB rfl h64)) ?_
         have p64 := h64; try simp only [bs] at p64
         have hz2 : hasI is (u : Int) ni = false := by simpa using p64
         refine Run.y (.pointer (some ⟨b3, 0, none⟩)) rfl (OpY.fieldAddr Tfo_29_0 rfl rfl) ?_
         refine Run.y (v1) rfl (OpY.load1 Tone_24 rfl (Cells.blk (.tail _ (.tail _ (.tail _ (List.Mem.head _)))) ⟨rfl, trivial⟩)) ?_
         refine Run.p (.int .i64 (((u : Nat) : Int))) rfl rfl ?_
         refine Run.q (v := .bool (hasI nx (u : Int) n)) rfl (OpQ.call (vs := [v1, .int .i64 (((u : Nat) : Int))]) (caps := []) Tcall_62 rfl rfl (fun w hs => (by have h := l1Has_spec (x := ((u : Nat) : Int)) (hs.slOwn (.tail _ (.tail _ (.tail _ (.tail _ (.tail _ (.tail _ (List.Mem.head _)))))))); exact h))) ?_
         refine Run.p (.bool (hasI nx (u : Int) n)) rfl rfl ?_
         rcases Bool.eq_false_or_eq_true (hasI nx (u : Int) n) with h70 | h70
         ·refine Run.q (v := .bool true) rfl (OpQ.y (OpY.moveB rfl h70)) ?_
          have p70 := h70; try simp only [bs] at p70
          have hmiss2 := gd_miss (es := es) (m := m) (is := is) (ni := ni) (nx := nx) (ly := ly) (n := n) (u := u) (.inr (.inr (.inl (by simpa using p70))))
          have hmiss : ∀ w, w < n → gdB es m n is ni nx ly u w = true → 0 ≤ ix L w ∧ ix ly w < 0 := fun w hw h => by rw [hmiss2 w hw] at h; cases h
          refine Run.pass rfl ?_
          refine Run.pass rfl ?_
          refine Run.pass rfl ?_
          refine Run.p (.bool true) rfl rfl ?_
          refine Run.p (.bool true) rfl rfl ?_
          refine Run.pass rfl ?_
          refine Run.pass rfl ?_
          refine Run.pass rfl ?_
          refine Run.pass rfl ?_
          refine Run.pass rfl ?_
          refine Run.pass rfl ?_
          refine Run.pass rfl ?_
          refine Run.p (.bool true) rfl rfl ?_
          refine Run.done ?_
          refine Run.cond (b := true) rfl (fun _ => ?_) (fun h => nomatch h)
          refine Run.exit rfl ?_
          refine Run.region ?_
          refine Run.p (.int .i64 (((u : Nat) : Int))) rfl rfl ?_
          refine Run.y (.int .i64 (((u + 1 : Nat) : Int))) rfl (OpY.add rfl rfl (by omega) (by omega) (by omega)) ?_
          refine Run.p (.int .i64 (((u + 1 : Nat) : Int))) rfl rfl ?_
          refine Run.done ?_
          refine Run.goal ⟨(by repeat (first | exact Same.refl _ _ | refine Same.put rfl ?_ | refine Same.over rfl rfl ?_)), (u + 1, A, L), ?_, ?_, ?_, ?_⟩
          ·first | exact ⟨by omega, hhit⟩ | exact ⟨by omega, hup.miss hmiss⟩
          ·show n - (u + 1) < n - u; omega
          ·exact ⟨(by first | rfl | (congr 1; omega) | simp), trivial⟩
          ·exact ((Weak.selF [1, 1, 1, 1, 1, 1, 1]).trans (Some'.weak (.takeEq (by first | rfl | simp) (.takeEq (by first | rfl | simp) (.takeEq (by first | rfl | simp) (.take (.take (.takeEq (by first | rfl | simp) (.takeEq (by first | rfl | simp) (.nil _))))))))))
         ·refine Run.q (v := .bool false) rfl (OpQ.y (OpY.moveB rfl h70)) ?_
          have p70 := h70; try simp only [bs] at p70
          have hz3 : hasI nx (u : Int) n = false := by simpa using p70
          refine Run.p (us) rfl rfl ?_
          refine Run.formOwn (.head _) (fun A_us1 c_us1 hv hcapc_us1 hmaxc_us1 => ?_) (fun _ _ _ => ⟨nofun, nofun, nofun⟩)
          subst hv
          refine Run.y (.int .i64 ((((setN (ngK es u m &&& unl ly n) n).length : Nat) : Int))) rfl (OpY.len Tsl_24 rfl) ?_
          refine Run.p (.bool (((((setN (ngK es u m &&& unl ly n) n).length : Nat) : Int)) != 1)) rfl rfl ?_
          refine Run.p (.bool (((((setN (ngK es u m &&& unl ly n) n).length : Nat) : Int)) != 1)) rfl rfl ?_
          rcases Bool.eq_false_or_eq_true (((((setN (ngK es u m &&& unl ly n) n).length : Nat) : Int)) != 1) with h75 | h75
          ·refine Run.q (v := .bool true) rfl (OpQ.y (OpY.moveB rfl h75)) ?_
           have p75 := h75; try simp only [bs] at p75
           have hmiss2 := gd_miss (es := es) (m := m) (is := is) (ni := ni) (nx := nx) (ly := ly) (n := n) (u := u) (.inr (.inr (.inr (by omega))))
           have hmiss : ∀ w, w < n → gdB es m n is ni nx ly u w = true → 0 ≤ ix L w ∧ ix ly w < 0 := fun w hw h => by rw [hmiss2 w hw] at h; cases h
           refine Run.pass rfl ?_
           refine Run.pass rfl ?_
           refine Run.pass rfl ?_
           refine Run.pass rfl ?_
           refine Run.pass rfl ?_
           refine Run.pass rfl ?_
           refine Run.pass rfl ?_
           refine Run.p (.bool true) rfl rfl ?_
           refine Run.done ?_
           refine Run.cond (b := true) rfl (fun _ => ?_) (fun h => nomatch h)
           refine Run.exit rfl ?_
           refine Run.region ?_
           refine Run.p (.int .i64 (((u : Nat) : Int))) rfl rfl ?_
           refine Run.y (.int .i64 (((u + 1 : Nat) : Int))) rfl (OpY.add rfl rfl (by omega) (by omega) (by omega)) ?_
           refine Run.p (.int .i64 (((u + 1 : Nat) : Int))) rfl rfl ?_
           refine Run.done ?_
           refine Run.goal ⟨(by repeat (first | exact Same.refl _ _ | refine Same.put rfl ?_ | refine Same.over rfl rfl ?_)), (u + 1, A, L), ?_, ?_, ?_, ?_⟩
           ·first | exact ⟨by omega, hhit⟩ | exact ⟨by omega, hup.miss hmiss⟩
           ·show n - (u + 1) < n - u; omega
           ·exact ⟨(by first | rfl | (congr 1; omega) | simp), trivial⟩
           ·exact ((Weak.selF [1, 1, 1, 1, 1, 1, 1]).trans (Some'.weak (.takeEq (by first | rfl | simp) (.takeEq (by first | rfl | simp) (.takeEq (by first | rfl | simp) (.take (.take (.takeEq (by first | rfl | simp) (.takeEq (by first | rfl | simp) (.nil _))))))))))
          ·refine Run.q (v := .bool false) rfl (OpQ.y (OpY.moveB rfl h75)) ?_
           have p75 := h75; try simp only [bs] at p75
           have hln1 : (setN (ngK es u m &&& unl ly n) n).length = 1 := by omega
           obtain ⟨v0, hv0, ha2, hse⟩ := one_bit hal hln1
           have hx0 : ix (setN (ngK es u m &&& unl ly n) n) 0 = (v0 : Int) := by rw [hse]; rfl
           obtain ⟨hh1, hh2⟩ := gd_hit hz1 hz2 hz3 ha2
           refine Run.openOwn (.head _) (by omega) (fun gn cgn hvgn hcapgn _ => ?_) (fun _ _ _ => ⟨nofun, nofun, nofun⟩)
           injection hvgn with hAgn _ hcgn; subst hAgn; subst hcgn
           refine Run.openOwn (.tail _ (.tail _ (List.Mem.head _))) (by omega) (fun gl cgl hvgl hcapgl _ => ?_) (fun _ _ _ => ⟨nofun, nofun, nofun⟩)
           injection hvgl with hAgl _ hcgl; subst hAgl; subst hcgl
           refine Run.p (.slice (some ⟨gl, 0, none⟩) n c_uw21) rfl rfl ?_
           refine Run.p (.slice (some ⟨gn, 0, none⟩) ((setN (ngK es u m &&& unl ly n) n).length) c_us1) rfl rfl ?_
           refine Run.y (.pointer (some ⟨gn, 0, none⟩)) rfl (OpY.index (kk := 0) Tsl_24 rfl rfl (by omega) (by omega) (by first | rfl | omega)) ?_
           refine Run.y (.int .i64 (ix (setN (ngK es u m &&& unl ly n) n) (0))) rfl (OpY.load1 Tone_3 rfl (Cells.own0 (.head _) (pre1 (by first | omega | (simp only [ints_length, List.length_set]; omega))))) ?_
           refine Run.y (.pointer (some ⟨gl, v0, none⟩)) rfl (OpY.index (kk := v0) Tsl_24 rfl rfl (by omega) (by omega) (by first | rfl | omega)) ?_
           refine Run.y (.int .i64 (ix L (v0))) rfl (OpY.load1 Tone_3 rfl (Cells.own0 (.tail _ (.tail _ (List.Mem.head _))) (pre1 (by first | omega | (simp only [ints_length, List.length_set]; omega))))) ?_
           refine Run.p (.bool (decide ((ix L (v0)) ≥ 0))) rfl rfl ?_
           refine Run.p (.bool (decide ((ix L (v0)) ≥ 0))) rfl rfl ?_
           refine Run.done ?_
           refine Run.cond (b := decide ((ix L (v0)) ≥ 0)) rfl (fun h83 => ?_) (fun h83 => ?_)
           ·have p83 := h83; try simp only [bs] at p83
            have hmiss : ∀ w, w < n → gdB es m n is ni nx ly u w = true → 0 ≤ ix L w ∧ ix ly w < 0 := fun w hw h => by
             by_cases e : w = v0
             ·subst e
              have hb := (gd_iff hes hun).1 h
              exact ⟨by omega, ((hb.1.2.2.2 w hw).2 rfl).2⟩
             ·rw [hh2 w e] at h; cases h
            refine Run.exit rfl ?_
            refine Run.region ?_
            refine Run.p (.int .i64 (((u : Nat) : Int))) rfl rfl ?_
            refine Run.y (.int .i64 (((u + 1 : Nat) : Int))) rfl (OpY.add rfl rfl (by omega) (by omega) (by omega)) ?_
            refine Run.p (.int .i64 (((u + 1 : Nat) : Int))) rfl rfl ?_
            refine Run.done ?_
            refine Run.goal ⟨(by repeat (first | exact Same.refl _ _ | refine Same.put rfl ?_ | refine Same.over rfl rfl ?_)), (u + 1, A, L), ?_, ?_, ?_, ?_⟩
            ·first | exact ⟨by omega, hhit⟩ | exact ⟨by omega, hup.miss hmiss⟩
            ·show n - (u + 1) < n - u; omega
            ·exact ⟨(by first | rfl | (congr 1; omega) | simp), trivial⟩
            ·exact ((Weak.selF [1, 1, 1, 1, 1, 1, 1]).trans (Some'.weak (.takeEq (by first | rfl | simp) (.takeEq (by first | rfl | simp) (.takeEq (by first | rfl | simp) (.take (.take (.takeEq (by first | rfl | simp) (.takeEq (by first | rfl | simp) (.nil _))))))))))
           ·have p83 := h83; try simp only [bs] at p83
            have hhit := hup.hit hv0 (by omega) hh1 fun w _ hw => hh2 w hw
            refine Run.skip ?_
            refine Run.seq ?_
            refine Run.openOwn (.tail _ (List.Mem.head _)) (by omega) (fun ga cga hvga hcapga _ => ?_) (fun _ _ _ => ⟨nofun, nofun, nofun⟩)
            injection hvga with hAga _ hcga; subst hAga; subst hcga
            refine Run.region ?_
            refine Run.p (.slice (some ⟨ga, 0, none⟩) n c_uw11) rfl rfl ?_
            refine Run.p (.slice (some ⟨gn, 0, none⟩) ((setN (ngK es u m &&& unl ly n) n).length) c_us1) rfl rfl ?_
            refine Run.y (.pointer (some ⟨gn, 0, none⟩)) rfl (OpY.index (kk := 0) Tsl_24 rfl rfl (by omega) (by omega) (by first | rfl | omega)) ?_
            refine Run.y (.int .i64 (ix (setN (ngK es u m &&& unl ly n) n) (0))) rfl (OpY.load1 Tone_3 rfl (Cells.own0 (.head _) (pre1 (by first | omega | (simp only [ints_length, List.length_set]; omega))))) ?_
            refine Run.p (.int .i64 (((u : Nat) : Int))) rfl rfl ?_
            refine Run.y (.pointer (some ⟨ga, v0, none⟩)) rfl (OpY.index (kk := v0) Tsl_24 rfl rfl (by omega) (by omega) (by first | rfl | omega)) ?_
            refine Run.step rfl (OpStep.storeOwnInt (o := v0) (a := ((u : Nat) : Int)) Tsize_3 rfl rfl (.there _ (.here _)) (by first | omega | (simp only [ints_length, List.length_set]; omega)) ?_)
            refine Run.dr ?_
            refine Run.p (.slice (some ⟨gl, 0, none⟩) n c_uw21) rfl rfl ?_
            refine Run.p (.slice (some ⟨gn, 0, none⟩) ((setN (ngK es u m &&& unl ly n) n).length) c_us1) rfl rfl ?_
            refine Run.y (.pointer (some ⟨gn, 0, none⟩)) rfl (OpY.index (kk := 0) Tsl_24 rfl rfl (by omega) (by omega) (by first | rfl | omega)) ?_
            refine Run.y (.int .i64 (ix (setN (ngK es u m &&& unl ly n) n) (0))) rfl (OpY.load1 Tone_3 rfl (Cells.own0 (.head _) (pre1 (by first | omega | (simp only [ints_length, List.length_set]; omega))))) ?_
            refine Run.p (.int .i64 (((k : Nat) : Int))) rfl rfl ?_
            refine Run.y (.pointer (some ⟨gl, v0, none⟩)) rfl (OpY.index (kk := v0) Tsl_24 rfl rfl (by omega) (by omega) (by first | rfl | omega)) ?_
            refine Run.step rfl (OpStep.storeOwnInt (o := v0) (a := ((k : Nat) : Int)) Tsize_3 rfl rfl (.there _ (.there _ (.here _))) (by first | omega | (simp only [ints_length, List.length_set]; omega)) ?_)
            refine Run.done ?_
            refine Run.blockEnd ?_
            refine Run.region ?_
            refine Run.p (.int .i64 (((u : Nat) : Int))) rfl rfl ?_
            refine Run.y (.int .i64 (((u + 1 : Nat) : Int))) rfl (OpY.add rfl rfl (by omega) (by omega) (by omega)) ?_
            refine Run.p (.int .i64 (((u + 1 : Nat) : Int))) rfl rfl ?_
            refine Run.done ?_
            refine Run.goal ⟨(by repeat (first | exact Same.refl _ _ | refine Same.put rfl ?_ | refine Same.over rfl rfl ?_)), (u + 1, (A.set v0 (((u : Nat) : Int))), (L.set v0 (((k : Nat) : Int)))), ?_, ?_, ?_, ?_⟩
            ·first | exact ⟨by omega, hhit⟩ | exact ⟨by omega, hup.miss hmiss⟩
            ·show n - (u + 1) < n - u; omega
            ·exact ⟨(by first | rfl | (congr 1; omega) | simp), trivial⟩
            ·exact ((Weak.selF [1, 1, 1, 1, 1, 1, 1]).trans (Some'.weak (.takeEq (by first | rfl | simp) (.takeEq (by first | rfl | simp) (.takeEq (by first | rfl | simp) (.take (.take (.takeEq (by first | rfl | simp) (.takeEq (by first | rfl | simp) (.nil _))))))))))
      ·have p43 := h43; try simp only [bs] at p43
       obtain ⟨hun0, hup⟩ := hinv
       rw [show u = n by omega] at hup
       obtain ⟨hfA, hfL⟩ := hup.fin hloop.fl hes
       refine Run.exit rfl ?_
       refine Run.seq ?_
       refine Run.sr ?_
       refine Run.p (.slice A_uw21 n c_uw21) rfl rfl ?_
       refine Run.q (v := .int .i64 (((unl L n : Nat) : Int))) rfl (OpQ.call (vs := [.slice A_uw21 n c_uw21]) (caps := []) Tcall_58 rfl rfl (fun w hs => l19Open_spec (ly := L) hn10 (hs.slOwn (.tail _ (List.Mem.head _))))) ?_
       refine Run.p (.int .i64 (((unl ly n : Nat) : Int))) rfl rfl ?_
       refine Run.p (.bool ((((unl L n : Nat) : Int)) == (((unl ly n : Nat) : Int)))) rfl rfl ?_
       refine Run.done ?_
       refine Run.cond (b := (((unl L n : Nat) : Int)) == (((unl ly n : Nat) : Int))) rfl (fun h99 => ?_) (fun h99 => ?_)
       ·have p99 := h99; try simp only [bs] at p99
        have hres := cf_none (hloop.none h0 (by rw [← hfL]; omega))
        refine Run.sr ?_
        refine Run.y (.agg #[.slice none 0 0, .slice none 0 0]) rfl (OpY.build (cs := [.slice none 0 0, .slice none 0 0]) (by kernel_rfl)) ?_
        refine Run.step rfl (OpStep.storeAll (us := [.slice none 0 0, .slice none 0 0]) Tsize_29 rfl rfl rfl (.there _ (.there _ (.there _ (.here _)))) rfl ?_)
        refine Run.p (.bool false) rfl rfl ?_
        refine Run.done ?_
        refine Run.ret ?_
        refine ⟨.tuple #[.agg #[.slice none 0 0, .slice none 0 0], .bool false], [.own (.slice none 0 0) 3 1 0 ([]), .own (.slice none 0 0) 3 1 0 ([])], Out.cell2 (cs := [.slice none 0 0, .slice none 0 0]) rfl Tagg_29 rfl (Cells.blk (.tail _ (.tail _ (.tail _ (List.Mem.head _)))) ⟨rfl, rfl, trivial⟩) rfl, ((Weak.nilOwn 3 1).trans ((Weak.nilOwn 3 1).trans (Some'.weak (.take (.take (.nil _)))))), ?_⟩
        exact ⟨_, _, by rw [hres.2.2], by rw [hres.1, hres.2.1]; rfl⟩
       ·have p99 := h99; try simp only [bs] at p99
        have hnext := hloop.next hes h0 (by rw [← hfL]; omega)
        rw [← hfA, ← hfL] at hnext
        refine Run.skip ?_
        refine Run.region ?_
        refine Run.p (.slice A_uw11 n c_uw11) rfl rfl ?_
        refine Run.p (.slice A_uw21 n c_uw21) rfl rfl ?_
        refine Run.y (.agg #[.slice A_uw11 n c_uw11, .slice A_uw21 n c_uw21]) rfl (OpY.build (cs := [.slice A_uw11 n c_uw11, .slice A_uw21 n c_uw21]) (by kernel_rfl)) ?_
        refine Run.step rfl (OpStep.storeAll (us := [.slice A_uw11 n c_uw11, .slice A_uw21 n c_uw21]) Tsize_29 rfl rfl rfl (.there _ (.there _ (.here _))) rfl ?_)
        refine Run.done ?_
        refine Run.blockEnd ?_
        refine Run.region ?_
        refine Run.p (.int .i64 (((k : Nat) : Int))) rfl rfl ?_
        refine Run.y (.int .i64 (((k + 1 : Nat) : Int))) rfl (OpY.add rfl rfl (by omega) (by omega) (by omega)) ?_
        refine Run.p (.int .i64 (((k + 1 : Nat) : Int))) rfl rfl ?_
        refine Run.done ?_
        refine Run.goal ⟨(by repeat (first | exact Same.refl _ _ | refine Same.put rfl ?_ | refine Same.over rfl rfl ?_)), (f2, k + 1, A, L, .slice A_uw11 n c_uw11, .slice A_uw21 n c_uw21), ?_, ?_, ?_, ?_⟩
        ·exact hnext
        ·show f2 < f2 + 1; omega
        ·exact ⟨(by show Value.int _ _ = Value.int _ _; congr 1), trivial⟩
        ·exact ((Weak.selF [2, 2, 2, 0, 0]).trans (Some'.weak (.takeEq (by first | rfl | (rw [hqn]) | simp) (.take (.take (.takeEq (by first | rfl | (rw [hqn]) | simp) (.takeEq (by first | rfl | (rw [hqn]) | simp) (.nil _))))))))

set_option maxHeartbeats 1000000 in
set_option maxRecDepth 20000 in
theorem sCausalFlowOf_spec {ve vi vo : Value} {n m ni no : Nat} {es is os : List Int} {w : World} (hn11 : n ≤ 11) (he : Sl w ve 2 m (ints es)) (hi : Sl w vi 1 ni (ints is)) (ho : Sl w vo 1 no (ints os)) (hsm : ∀ x ∈ es, 0 ≤ x ∧ x ≤ 100) : Calls Try.prog 7 #[.agg #[.int .i64 (n : Int), ve, vi, vo]] w (Post No w fun v H => ∃ u1 u2, v = .tuple #[.agg #[u1, u2], .bool (cfO es m n is ni os no).isSome] ∧ H = [.own u1 3 1 (cfA es m n is ni os no).length (ints (cfA es m n is ni os no)), .own u2 3 1 (cfL es m n is ni os no).length (ints (cfL es m n is ni os no))]) := by
 refine enter (n := 12) (args := [.agg #[.int .i64 (((n : Nat) : Int)), ve, vi, vo]]) Try.func7 rfl rfl (St.empty _ _) ?_
 refine Run.sr ?_
 refine Run.step rfl (OpStep.box (us := [.int .i64 (((n : Nat) : Int)), ve, vi, vo]) rfl fun b1 => ?_)
 refine Run.step rfl (OpStep.alloc (zs := [.slice none 0 0, .slice none 0 0]) Tzero_29 fun b2 => ?_)
 refine Run.p (.bool false) rfl rfl ?_
 refine Run.done ?_
 refine Run.seq ?_
 refine Run.sr ?_
 refine Run.y (.agg #[.int .i64 (((n : Nat) : Int)), ve, vi, vo]) rfl (OpY.loadN (cs := [.int .i64 (((n : Nat) : Int)), ve, vi, vo]) Tagg_26 rfl (Cells.blk (.tail _ (List.Mem.head _)) ⟨rfl, rfl, rfl, rfl, trivial⟩)) ?_
 refine Run.q (v := .bool (ogB n es m is ni os no)) rfl (OpQ.call (vs := [.agg #[.int .i64 (((n : Nat) : Int)), ve, vi, vo]]) (caps := []) Tcall_32 rfl rfl (fun w hs => l19Good_spec hn11 (hs.sl he) (hs.sl hi) (hs.sl ho) hsm)) ?_
 refine Run.p (.bool (!(ogB n es m is ni os no))) rfl rfl ?_
 refine Run.done ?_
 refine Run.cond (b := !(ogB n es m is ni os no)) rfl (fun h6 => ?_) (fun h6 => ?_)
 ·have p6 := h6; try simp only [bs] at p6
  have hg : ogB n es m is ni os no = false := by simpa using p6
  have hres := cf_none (cf_bad hg)
  refine Run.sr ?_
  refine Run.y (.agg #[.slice none 0 0, .slice none 0 0]) rfl (OpY.build (cs := [.slice none 0 0, .slice none 0 0]) (by kernel_rfl)) ?_
  refine Run.step rfl (OpStep.storeAll (us := [.slice none 0 0, .slice none 0 0]) Tsize_29 rfl rfl rfl (.here _) rfl ?_)
  refine Run.p (.bool false) rfl rfl ?_
  refine Run.done ?_
  refine Run.ret ?_
  refine ⟨.tuple #[.agg #[.slice none 0 0, .slice none 0 0], .bool false], [.own (.slice none 0 0) 3 1 0 ([]), .own (.slice none 0 0) 3 1 0 ([])], Out.cell2 (cs := [.slice none 0 0, .slice none 0 0]) rfl Tagg_29 rfl (Cells.blk (.head _) ⟨rfl, rfl, trivial⟩) rfl, ((Weak.nilOwn 3 1).trans ((Weak.nilOwn 3 1).trans (Some'.weak (.take (.take (.nil _)))))), ?_⟩
  exact ⟨_, _, by rw [hres.2.2], by rw [hres.1, hres.2.1]; rfl⟩
 ·have p6 := h6; try simp only [bs] at p6
  have hg : ogB n es m is ni os no = true := by simpa using p6
  refine Run.skip ?_
  refine Run.sr ?_
  refine Run.y (.agg #[.int .i64 (((n : Nat) : Int)), ve, vi, vo]) rfl (OpY.loadN (cs := [.int .i64 (((n : Nat) : Int)), ve, vi, vo]) Tagg_26 rfl (Cells.blk (.tail _ (List.Mem.head _)) ⟨rfl, rfl, rfl, rfl, trivial⟩)) ?_
  refine Run.step rfl (OpStep.call (vs := [.agg #[.int .i64 (((n : Nat) : Int)), ve, vi, vo]]) (caps := []) Tcall_33 rfl rfl (fun w hs => l19Causal_spec (hs.sl he) (hs.sl hi) (hs.sl ho) hg) ?_)
  rintro _ _ ⟨u1, u2, rfl, rfl⟩
  show Run _ _ (putF _ _ _ (.tuple #[.agg #[u1, u2], .bool ((cfO es m n is ni os no).isSome)])) [.own u1 3 1 ((cfA es m n is ni os no).length) (ints (cfA es m n is ni os no)), .own u2 3 1 ((cfL es m n is ni os no).length) (ints (cfL es m n is ni os no)), .blk b2 29 [.slice none 0 0, .slice none 0 0], .blk b1 26 [.int .i64 (((n : Nat) : Int)), ve, vi, vo]]
  refine Run.p (.agg #[u1, u2]) rfl rfl ?_
  refine Run.p (.bool ((cfO es m n is ni os no).isSome)) rfl rfl ?_
  refine Run.formOwn (.head _) (fun A_u11 c_u11 hv hcapc_u11 hmaxc_u11 => ?_) (fun _ _ _ => ⟨nofun, nofun, nofun⟩)
  subst hv
  refine Run.formOwn (.tail _ (List.Mem.head _)) (fun A_u21 c_u21 hv hcapc_u21 hmaxc_u21 => ?_) (fun _ _ _ => ⟨nofun, nofun, nofun⟩)
  subst hv
  refine Run.step rfl (OpStep.storeAll (us := [.slice A_u11 ((cfA es m n is ni os no).length) c_u11, .slice A_u21 ((cfL es m n is ni os no).length) c_u21]) Tsize_29 rfl rfl rfl (.there _ (.there _ (.here _))) rfl ?_)
  refine Run.p (.bool ((cfO es m n is ni os no).isSome)) rfl rfl ?_
  refine Run.done ?_
  refine Run.ret ?_
  refine ⟨.tuple #[.agg #[.slice A_u11 ((cfA es m n is ni os no).length) c_u11, .slice A_u21 ((cfL es m n is ni os no).length) c_u21], .bool ((cfO es m n is ni os no).isSome)], [.own (.slice A_u11 ((cfA es m n is ni os no).length) c_u11) 3 1 ((cfA es m n is ni os no).length) (ints (cfA es m n is ni os no)), .own (.slice A_u21 ((cfL es m n is ni os no).length) c_u21) 3 1 ((cfL es m n is ni os no).length) (ints (cfL es m n is ni os no))], Out.cell2 (cs := [.slice A_u11 ((cfA es m n is ni os no).length) c_u11, .slice A_u21 ((cfL es m n is ni os no).length) c_u21]) rfl Tagg_29 rfl (Cells.blk (.tail _ (.tail _ (List.Mem.head _))) ⟨rfl, rfl, trivial⟩) rfl, (Some'.weak (.take (.take (.nil _)))), ?_⟩
  exact ⟨_, _, rfl, rfl⟩

end Go.Proofs.Ytoiaibgcjfgbcaa
