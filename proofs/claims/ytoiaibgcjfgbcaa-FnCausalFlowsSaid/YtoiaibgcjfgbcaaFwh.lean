/- Walks: the search for generalised flows of the reference. -/
import Derived.Test.YtoiaibgcjfgbcaaFwg
import Derived.Test.YtoiaibgcjfgbcaaProg
set_option linter.unusedSimpArgs false
set_option linter.unusedVariables false
namespace Go.Proofs.Ytoiaibgcjfgbcaa
open Go Go.RowKit
namespace FwhT
theorem Tagg_26 : aggOf Try.prog 26 = some 4 := by kernel_rfl
theorem Tagg_38 : aggOf Try.prog 38 = some 2 := by kernel_rfl
theorem Tcall_32 : callable Try.prog 32 = true := by kernel_rfl
theorem Tcall_40 : callable Try.prog 40 = true := by kernel_rfl
theorem Tcall_57 : callable Try.prog 57 = true := by kernel_rfl
theorem Tcall_58 : callable Try.prog 58 = true := by kernel_rfl
theorem Tcall_60 : callable Try.prog 60 = true := by kernel_rfl
theorem Tcall_68 : callable Try.prog 68 = true := by kernel_rfl
theorem Tcall_69 : callable Try.prog 69 = true := by kernel_rfl
theorem Tfo_26_0 : fieldOff Try.prog 26 0 = some 0 := by kernel_rfl
theorem Tfo_26_2 : fieldOff Try.prog 26 2 = some 2 := by kernel_rfl
theorem Tfo_38_0 : fieldOff Try.prog 38 0 = some 0 := by kernel_rfl
theorem Tfo_38_1 : fieldOff Try.prog 38 1 = some 1 := by kernel_rfl
theorem Tint_52 : Try.prog.underlying 52 = some (.int .u64) := by kernel_rfl
theorem Tone_24 : oneOf Try.prog 24 = true := by kernel_rfl
theorem Tone_3 : oneOf Try.prog 3 = true := by kernel_rfl
theorem Tsize_3 : (Try.prog.info? 3).map (·.size) = some 1 := by kernel_rfl
theorem Tsize_38 : (Try.prog.info? 38).map (·.size) = some 2 := by kernel_rfl
theorem Tsl_24 : sliceOf Try.prog 24 = some (3, 1, 8, [.int .i64 0]) := by kernel_rfl
theorem Tsome_3 : (Try.prog.underlying 3).isSome = true := by kernel_rfl
theorem Tzero_38 : zeroOf Try.prog 38 = some [.slice none 0 0, .slice none 0 0] := by kernel_rfl
end FwhT
open FwhT
set_option maxHeartbeats 2000000 in
set_option maxRecDepth 20000 in
theorem l19General_spec {ve vi vo : Value} {n m ni no : Nat} {es is os : List Int} {w : World} (he : Sl w ve 2 m (ints es)) (hi : Sl w vi 1 ni (ints is)) (ho : Sl w vo 1 no (ints os)) (hg : ogB n es m is ni os no = true) : Calls Try.prog 40 #[.agg #[.int .i64 (n : Int), ve, vi, vo]] w (Post No w fun v H => ∃ u1 u2, v = .tuple #[.agg #[u1, u2], .bool (gfO es m n is ni os no).isSome] ∧ H = [.own u1 3 1 (gfA es m n is ni os no).length (ints (gfA es m n is ni os no)), .own u2 3 1 (gfL es m n is ni os no).length (ints (gfL es m n is ni os no))]) := by
 obtain ⟨hn1, hn10, hes, hri, hro⟩ := og_ok hg
 have hp10 := pow10 hn10
 obtain ⟨qn, hqn⟩ : ∃ q : Nat, q = 2 ^ n := ⟨_, rfl⟩
 have hqn1 : 1 ≤ qn := by rw [hqn]; exact Nat.two_pow_pos _
 have hmk := mskK_lt (n := n) (k := ni) (l := is) (ris_in hri)
 refine enter (n := 78) (args := [.agg #[.int .i64 (((n : Nat) : Int)), ve, vi, vo]]) Try.func40 rfl rfl (St.empty _ _) ?_
 refine Run.sr ?_
 refine Run.step rfl (OpStep.box (us := [.int .i64 (((n : Nat) : Int)), ve, vi, vo]) rfl fun b1 => ?_)
 refine Run.step rfl (OpStep.alloc (zs := [.slice none 0 0, .slice none 0 0]) Tzero_38 fun b2 => ?_)
 refine Run.p (.bool false) rfl rfl ?_
 refine Run.done ?_
 refine Run.seq ?_
 refine Run.cut (ι := Nat × Value × Value) [4, 9, 10, 11, 12, 13, 14] (fun ⟨b4, v1, v2⟩ => [(4, .pointer (some ⟨b4, 0, none⟩))]) (fun ⟨b4, v1, v2⟩ => [.blk b4 38 [v1, v2], .own v1 3 1 n (ints (List.replicate n 0)), .own v2 3 1 n (ints (ly0 os no n)), .blk b2 38 [.slice none 0 0, .slice none 0 0], .blk b1 26 [.int .i64 (((n : Nat) : Int)), ve, vi, vo]]) (fun ⟨b4, v1, v2⟩ => True) ?_ ?_
 ·refine Run.held (by kernel_rfl) ?_
  refine DW.take (i := 0) (v := .pointer (some ⟨b1, 0, none⟩)) rfl (by kernel_rfl) (by kernel_rfl) (by kernel_rfl) (fun _ _ _ h => h) (Weak.refl _) rfl (OpY.fieldAddr Tfo_26_0 rfl rfl) ?_
  refine DW.take (i := 1) (v := .int .i64 (((n : Nat) : Int))) rfl (by kernel_rfl) (by kernel_rfl) (by kernel_rfl) (fun _ _ _ h => h) (Weak.refl _) rfl (OpY.load1 Tone_3 rfl (Cells.blk (.tail _ (List.Mem.head _)) ⟨rfl, trivial⟩)) ?_
  refine DW.take (i := 3) (v := .agg #[.int .i64 (((n : Nat) : Int)), ve, vi, vo]) rfl (by kernel_rfl) (by kernel_rfl) (by kernel_rfl) (fun _ _ _ h => h) (Weak.refl _) rfl (OpY.loadN (cs := [.int .i64 (((n : Nat) : Int)), ve, vi, vo]) Tagg_26 rfl (Cells.blk (.tail _ (List.Mem.head _)) ⟨rfl, rfl, rfl, rfl, trivial⟩)) ?_
  refine DW.three (i := 2) (j := 4) (l := 6) (by kernel_rfl) rfl rfl rfl rfl rfl rfl ?_ ?_ ?_
  ·refine OpStep.makeSlice (n := n) Tsl_24 rfl (by decide) (by first | rfl | omega) (by first | rfl | omega) (by omega) (by simp only [maxLen]; omega) fun b3 => ?_
   refine ⟨(Some'.weak (.skip (.take (.take (.nil _))))), ?_⟩
   refine DW.two (i := 4) (j := 6) (by kernel_rfl) rfl rfl rfl rfl ?_ ?_
   ·refine OpStep.call (vs := [.agg #[.int .i64 (((n : Nat) : Int)), ve, vi, vo]]) (caps := []) Tcall_57 rfl rfl (fun w hs => l19Start_spec (ve := ve) (vi := vi) hn1 hn10 (hs.sl ho)) ?_
    rintro uf _ rfl
    refine ⟨(Some'.weak (.skip (.skip (.take (.take (.nil _)))))), ?_⟩
    refine DW.formOwn (.head _) (fun A_uf1 c_uf1 hv hcapc_uf1 hmaxc_uf1 => ?_)
    subst hv
    refine DW.take (i := 5) (v := .agg #[.slice (some ⟨b3, 0, none⟩) n n, .slice A_uf1 n c_uf1]) rfl (by kernel_rfl) (by kernel_rfl) (by kernel_rfl) (fun _ _ _ h => h) (Some'.weak (.skip (.skip (.take (.take (.nil _)))))) rfl (OpY.build (cs := [.slice (some ⟨b3, 0, none⟩) n n, .slice A_uf1 n c_uf1]) (by kernel_rfl)) ?_
    refine DW.step (i := 6) (by kernel_rfl) rfl rfl (OpStep.alloc (zs := [.slice none 0 0, .slice none 0 0]) Tzero_38 fun b4 => ?_)
    refine ⟨(Some'.weak (.skip (.skip (.skip (.take (.take (.nil _))))))), ?_⟩
    refine DW.step (i := 7) (by kernel_rfl) rfl rfl (OpStep.storeAll (us := [.slice (some ⟨b3, 0, none⟩) n n, .slice A_uf1 n c_uf1]) Tsize_38 rfl rfl rfl (.here _) rfl ?_)
    refine ⟨(Some'.weak (.skip (.skip (.skip (.take (.take (.nil _))))))), ?_⟩
    refine DW.done (by kernel_rfl) ?_
    refine Run.goal ⟨(by repeat (first | exact Same.refl _ _ | refine Same.put rfl ?_ | refine Same.over rfl rfl ?_)), (b4, .slice (some ⟨b3, 0, none⟩) n n, .slice A_uf1 n c_uf1), ?_, ?_, ?_⟩
    ·trivial
    ·exact ⟨(by first | rfl | (congr 1; omega) | simp [*]), trivial⟩
    ·exact ((Weak.selF [0, 1, 0, 0, 0]).trans (Some'.weak (.takeEq (by first | rfl | (rw [rep0]) | simp) (.takeEq (by first | rfl | (rw [rep0]) | simp) (.takeEq (by first | rfl | (rw [rep0]) | simp) (.take (.take (.nil _))))))))
   ·refine OpStep.alloc (zs := [.slice none 0 0, .slice none 0 0]) Tzero_38 fun b5 => ?_
    refine ⟨(Some'.weak (.skip (.skip (.take (.take (.nil _)))))), ?_⟩
    refine DW.step (i := 4) (by kernel_rfl) rfl rfl (OpStep.call (vs := [.agg #[.int .i64 (((n : Nat) : Int)), ve, vi, vo]]) (caps := []) Tcall_57 rfl rfl (fun w hs => l19Start_spec (ve := ve) (vi := vi) hn1 hn10 (hs.sl ho)) ?_)
    rintro uf _ rfl
    refine ⟨(Some'.weak (.skip (.skip (.skip (.take (.take (.nil _))))))), ?_⟩
    refine DW.formOwn (.head _) (fun A_uf2 c_uf2 hv hcapc_uf2 hmaxc_uf2 => ?_)
    subst hv
    refine DW.take (i := 5) (v := .agg #[.slice (some ⟨b3, 0, none⟩) n n, .slice A_uf2 n c_uf2]) rfl (by kernel_rfl) (by kernel_rfl) (by kernel_rfl) (fun _ _ _ h => h) (Some'.weak (.skip (.skip (.skip (.take (.take (.nil _))))))) rfl (OpY.build (cs := [.slice (some ⟨b3, 0, none⟩) n n, .slice A_uf2 n c_uf2]) (by kernel_rfl)) ?_
    refine DW.step (i := 7) (by kernel_rfl) rfl rfl (OpStep.storeAll (us := [.slice (some ⟨b3, 0, none⟩) n n, .slice A_uf2 n c_uf2]) Tsize_38 rfl rfl rfl (.there _ (.here _)) rfl ?_)
    refine ⟨(Some'.weak (.skip (.skip (.skip (.take (.take (.nil _))))))), ?_⟩
    refine DW.done (by kernel_rfl) ?_
    refine Run.goal ⟨(by repeat (first | exact Same.refl _ _ | refine Same.put rfl ?_ | refine Same.over rfl rfl ?_)), (b5, .slice (some ⟨b3, 0, none⟩) n n, .slice A_uf2 n c_uf2), ?_, ?_, ?_⟩
    ·trivial
    ·exact ⟨(by first | rfl | (congr 1; omega) | simp [*]), trivial⟩
    ·exact ((Weak.selF [1, 1, 0, 0, 0]).trans (Some'.weak (.takeEq (by first | rfl | (rw [rep0]) | simp) (.takeEq (by first | rfl | (rw [rep0]) | simp) (.takeEq (by first | rfl | (rw [rep0]) | simp) (.take (.take (.nil _))))))))
  ·refine OpStep.call (vs := [.agg #[.int .i64 (((n : Nat) : Int)), ve, vi, vo]]) (caps := []) Tcall_57 rfl rfl (fun w hs => l19Start_spec (ve := ve) (vi := vi) hn1 hn10 (hs.sl ho)) ?_
   rintro uf _ rfl
   refine ⟨(Some'.weak (.skip (.take (.take (.nil _))))), ?_⟩
   refine DW.two (i := 2) (j := 6) (by kernel_rfl) rfl rfl rfl rfl ?_ ?_
   ·refine OpStep.makeSlice (n := n) Tsl_24 rfl (by decide) (by first | rfl | omega) (by first | rfl | omega) (by omega) (by simp only [maxLen]; omega) fun b6 => ?_
    refine ⟨(Some'.weak (.skip (.skip (.take (.take (.nil _)))))), ?_⟩
    refine DW.formOwn (.tail _ (List.Mem.head _)) (fun A_uf3 c_uf3 hv hcapc_uf3 hmaxc_uf3 => ?_)
    subst hv
    refine DW.take (i := 5) (v := .agg #[.slice (some ⟨b6, 0, none⟩) n n, .slice A_uf3 n c_uf3]) rfl (by kernel_rfl) (by kernel_rfl) (by kernel_rfl) (fun _ _ _ h => h) (Some'.weak (.skip (.skip (.take (.take (.nil _)))))) rfl (OpY.build (cs := [.slice (some ⟨b6, 0, none⟩) n n, .slice A_uf3 n c_uf3]) (by kernel_rfl)) ?_
    refine DW.step (i := 6) (by kernel_rfl) rfl rfl (OpStep.alloc (zs := [.slice none 0 0, .slice none 0 0]) Tzero_38 fun b7 => ?_)
    refine ⟨(Some'.weak (.skip (.skip (.skip (.take (.take (.nil _))))))), ?_⟩
    refine DW.step (i := 7) (by kernel_rfl) rfl rfl (OpStep.storeAll (us := [.slice (some ⟨b6, 0, none⟩) n n, .slice A_uf3 n c_uf3]) Tsize_38 rfl rfl rfl (.here _) rfl ?_)
    refine ⟨(Some'.weak (.skip (.skip (.skip (.take (.take (.nil _))))))), ?_⟩
    refine DW.done (by kernel_rfl) ?_
    refine Run.goal ⟨(by repeat (first | exact Same.refl _ _ | refine Same.put rfl ?_ | refine Same.over rfl rfl ?_)), (b7, .slice (some ⟨b6, 0, none⟩) n n, .slice A_uf3 n c_uf3), ?_, ?_, ?_⟩
    ·trivial
    ·exact ⟨(by first | rfl | (congr 1; omega) | simp [*]), trivial⟩
    ·exact ((Weak.refl _).trans (Some'.weak (.takeEq (by first | rfl | (rw [rep0]) | simp) (.takeEq (by first | rfl | (rw [rep0]) | simp) (.takeEq (by first | rfl | (rw [rep0]) | simp) (.take (.take (.nil _))))))))
   ·refine OpStep.alloc (zs := [.slice none 0 0, .slice none 0 0]) Tzero_38 fun b8 => ?_
    refine ⟨(Some'.weak (.skip (.skip (.take (.take (.nil _)))))), ?_⟩
    refine DW.step (i := 2) (by kernel_rfl) rfl rfl (OpStep.makeSlice (n := n) Tsl_24 rfl (by decide) (by first | rfl | omega) (by first | rfl | omega) (by omega) (by simp only [maxLen]; omega) fun b9 => ?_)
    refine ⟨(Some'.weak (.skip (.skip (.skip (.take (.take (.nil _))))))), ?_⟩
    refine DW.formOwn (.tail _ (.tail _ (List.Mem.head _))) (fun A_uf4 c_uf4 hv hcapc_uf4 hmaxc_uf4 => ?_)
    subst hv
    refine DW.take (i := 5) (v := .agg #[.slice (some ⟨b9, 0, none⟩) n n, .slice A_uf4 n c_uf4]) rfl (by kernel_rfl) (by kernel_rfl) (by kernel_rfl) (fun _ _ _ h => h) (Some'.weak (.skip (.skip (.skip (.take (.take (.nil _))))))) rfl (OpY.build (cs := [.slice (some ⟨b9, 0, none⟩) n n, .slice A_uf4 n c_uf4]) (by kernel_rfl)) ?_
    refine DW.step (i := 7) (by kernel_rfl) rfl rfl (OpStep.storeAll (us := [.slice (some ⟨b9, 0, none⟩) n n, .slice A_uf4 n c_uf4]) Tsize_38 rfl rfl rfl (.there _ (.here _)) rfl ?_)
    refine ⟨(Some'.weak (.skip (.skip (.skip (.take (.take (.nil _))))))), ?_⟩
    refine DW.done (by kernel_rfl) ?_
    refine Run.goal ⟨(by repeat (first | exact Same.refl _ _ | refine Same.put rfl ?_ | refine Same.over rfl rfl ?_)), (b8, .slice (some ⟨b9, 0, none⟩) n n, .slice A_uf4 n c_uf4), ?_, ?_, ?_⟩
    ·trivial
    ·exact ⟨(by first | rfl | (congr 1; omega) | simp [*]), trivial⟩
    ·exact ((Weak.selF [1, 0, 0, 0, 0]).trans (Some'.weak (.takeEq (by first | rfl | (rw [rep0]) | simp) (.takeEq (by first | rfl | (rw [rep0]) | simp) (.takeEq (by first | rfl | (rw [rep0]) | simp) (.take (.take (.nil _))))))))
  ·refine OpStep.alloc (zs := [.slice none 0 0, .slice none 0 0]) Tzero_38 fun b10 => ?_
   refine ⟨(Some'.weak (.skip (.take (.take (.nil _))))), ?_⟩
   refine DW.two (i := 2) (j := 4) (by kernel_rfl) rfl rfl rfl rfl ?_ ?_
   ·refine OpStep.makeSlice (n := n) Tsl_24 rfl (by decide) (by first | rfl | omega) (by first | rfl | omega) (by omega) (by simp only [maxLen]; omega) fun b11 => ?_
    refine ⟨(Some'.weak (.skip (.skip (.take (.take (.nil _)))))), ?_⟩
    refine DW.step (i := 4) (by kernel_rfl) rfl rfl (OpStep.call (vs := [.agg #[.int .i64 (((n : Nat) : Int)), ve, vi, vo]]) (caps := []) Tcall_57 rfl rfl (fun w hs => l19Start_spec (ve := ve) (vi := vi) hn1 hn10 (hs.sl ho)) ?_)
    rintro uf _ rfl
    refine ⟨(Some'.weak (.skip (.skip (.skip (.take (.take (.nil _))))))), ?_⟩
    refine DW.formOwn (.head _) (fun A_uf5 c_uf5 hv hcapc_uf5 hmaxc_uf5 => ?_)
    subst hv
    refine DW.take (i := 5) (v := .agg #[.slice (some ⟨b11, 0, none⟩) n n, .slice A_uf5 n c_uf5]) rfl (by kernel_rfl) (by kernel_rfl) (by kernel_rfl) (fun _ _ _ h => h) (Some'.weak (.skip (.skip (.skip (.take (.take (.nil _))))))) rfl (OpY.build (cs := [.slice (some ⟨b11, 0, none⟩) n n, .slice A_uf5 n c_uf5]) (by kernel_rfl)) ?_
    refine DW.step (i := 7) (by kernel_rfl) rfl rfl (OpStep.storeAll (us := [.slice (some ⟨b11, 0, none⟩) n n, .slice A_uf5 n c_uf5]) Tsize_38 rfl rfl rfl (.there _ (.there _ (.here _))) rfl ?_)
    refine ⟨(Some'.weak (.skip (.skip (.skip (.take (.take (.nil _))))))), ?_⟩
    refine DW.done (by kernel_rfl) ?_
    refine Run.goal ⟨(by repeat (first | exact Same.refl _ _ | refine Same.put rfl ?_ | refine Same.over rfl rfl ?_)), (b10, .slice (some ⟨b11, 0, none⟩) n n, .slice A_uf5 n c_uf5), ?_, ?_, ?_⟩
    ·trivial
    ·exact ⟨(by first | rfl | (congr 1; omega) | simp [*]), trivial⟩
    ·exact ((Weak.selF [2, 1, 0, 0, 0]).trans (Some'.weak (.takeEq (by first | rfl | (rw [rep0]) | simp) (.takeEq (by first | rfl | (rw [rep0]) | simp) (.takeEq (by first | rfl | (rw [rep0]) | simp) (.take (.take (.nil _))))))))
   ·refine OpStep.call (vs := [.agg #[.int .i64 (((n : Nat) : Int)), ve, vi, vo]]) (caps := []) Tcall_57 rfl rfl (fun w hs => l19Start_spec (ve := ve) (vi := vi) hn1 hn10 (hs.sl ho)) ?_
    rintro uf _ rfl
    refine ⟨(Some'.weak (.skip (.skip (.take (.take (.nil _)))))), ?_⟩
    refine DW.step (i := 2) (by kernel_rfl) rfl rfl (OpStep.makeSlice (n := n) Tsl_24 rfl (by decide) (by first | rfl | omega) (by first | rfl | omega) (by omega) (by simp only [maxLen]; omega) fun b12 => ?_)
    refine ⟨(Some'.weak (.skip (.skip (.skip (.take (.take (.nil _))))))), ?_⟩
    refine DW.formOwn (.tail _ (List.Mem.head _)) (fun A_uf6 c_uf6 hv hcapc_uf6 hmaxc_uf6 => ?_)
    subst hv
    refine DW.take (i := 5) (v := .agg #[.slice (some ⟨b12, 0, none⟩) n n, .slice A_uf6 n c_uf6]) rfl (by kernel_rfl) (by kernel_rfl) (by kernel_rfl) (fun _ _ _ h => h) (Some'.weak (.skip (.skip (.skip (.take (.take (.nil _))))))) rfl (OpY.build (cs := [.slice (some ⟨b12, 0, none⟩) n n, .slice A_uf6 n c_uf6]) (by kernel_rfl)) ?_
    refine DW.step (i := 7) (by kernel_rfl) rfl rfl (OpStep.storeAll (us := [.slice (some ⟨b12, 0, none⟩) n n, .slice A_uf6 n c_uf6]) Tsize_38 rfl rfl rfl (.there _ (.there _ (.here _))) rfl ?_)
    refine ⟨(Some'.weak (.skip (.skip (.skip (.take (.take (.nil _))))))), ?_⟩
    refine DW.done (by kernel_rfl) ?_
    refine Run.goal ⟨(by repeat (first | exact Same.refl _ _ | refine Same.put rfl ?_ | refine Same.over rfl rfl ?_)), (b10, .slice (some ⟨b12, 0, none⟩) n n, .slice A_uf6 n c_uf6), ?_, ?_, ?_⟩
    ·trivial
    ·exact ⟨(by first | rfl | (congr 1; omega) | simp [*]), trivial⟩
    ·exact ((Weak.selF [2, 0, 0, 0, 0]).trans (Some'.weak (.takeEq (by first | rfl | (rw [rep0]) | simp) (.takeEq (by first | rfl | (rw [rep0]) | simp) (.takeEq (by first | rfl | (rw [rep0]) | simp) (.take (.take (.nil _))))))))
 ·rintro ⟨b4, v1, v2⟩ fr hcut
  show Run _ _ (over _ _ [(4, .pointer (some ⟨b4, 0, none⟩))] fr) [.blk b4 38 [v1, v2], .own v1 3 1 n (ints (List.replicate n 0)), .own v2 3 1 n (ints (ly0 os no n)), .blk b2 38 [.slice none 0 0, .slice none 0 0], .blk b1 26 [.int .i64 (((n : Nat) : Int)), ve, vi, vo]]
  refine Run.sr ?_
  refine Run.p (.int .i64 1) rfl rfl ?_
  refine Run.done ?_
  refine Run.formOwn (.tail _ (List.Mem.head _)) (fun A_v11 c_v11 hv hcapc_v11 hmaxc_v11 => ?_) (fun _ _ _ => ⟨nofun, nofun, nofun⟩)
  subst hv
  refine Run.formOwn (.tail _ (.tail _ (List.Mem.head _))) (fun A_v21 c_v21 hv hcapc_v21 hmaxc_v21 => ?_) (fun _ _ _ => ⟨nofun, nofun, nofun⟩)
  subst hv
  refine Run.block ?_
  refine Run.loop (ι := Nat × Nat × List Int × List Int) ([3, 5, 6, 7, 8, 15, 16, 17, 18, 19, 20, 21, 22, 23, 24, 25, 26, 27, 28, 29, 30, 31, 32, 33, 34, 35, 36, 37, 38, 39, 40, 41, 42, 43, 44, 45, 46, 47, 48, 49, 50, 51, 52, 53, 54, 55, 56, 57, 58, 59] ++ [60, 61, 62, 63, 64, 65, 66, 67, 68, 69, 70, 71, 72, 73, 74, 75, 76, 77]) (fun ⟨f, k, ss, ly⟩ => [(5, .int .i64 (((k : Nat) : Int)))]) (fun ⟨f, k, ss, ly⟩ => [.blk b4 38 [.slice A_v11 n c_v11, .slice A_v21 n c_v21], .blk b2 38 [.slice none 0 0, .slice none 0 0], .blk b1 26 [.int .i64 (((n : Nat) : Int)), ve, vi, vo], .own (.slice A_v11 n c_v11) 3 1 n (ints ss), .own (.slice A_v21 n c_v21) 3 1 n (ints ly)]) (fun ⟨f, k, ss, ly⟩ => GfI es m n is ni os no f k ss ly) (fun ⟨f, k, ss, ly⟩ => f) (n + 1, 1, List.replicate n 0, ly0 os no n) ?_ ?_ ?_ ?_
  ·exact GfI.start hg
  ·exact ⟨rfl, trivial⟩
  ·exact ((Weak.selF [0, 2, 2, 0, 0]).trans (Some'.weak (.take (.take (.take (.takeEq (by first | rfl | simp) (.takeEq (by first | rfl | simp) (.nil _))))))))
  ·rintro ⟨f, k, ss, ly⟩ fr hinv
   show Run _ _ (over _ _ [(5, .int .i64 (((k : Nat) : Int)))] fr) [.blk b4 38 [.slice A_v11 n c_v11, .slice A_v21 n c_v21], .blk b2 38 [.slice none 0 0, .slice none 0 0], .blk b1 26 [.int .i64 (((n : Nat) : Int)), ve, vi, vo], .own (.slice A_v11 n c_v11) 3 1 n (ints ss), .own (.slice A_v21 n c_v21) 3 1 n (ints ly)]
   try dsimp only at hinv
   obtain ⟨f2, rfl⟩ : ∃ f2, f = f2 + 1 := ⟨f - 1, by have := hinv.cnt; omega⟩
   have hnl := hinv.fl.ln
   have hll := hinv.fl.ll
   have hkf := hinv.kf
   have hk1 := hinv.k1
   have hul := unl_lt ly n
   have hloop := hinv
   refine Run.seq ?_
   refine Run.block ?_
   refine Run.sr ?_
   refine Run.y (.pointer (some ⟨b4, 1, none⟩)) rfl (OpY.fieldAddr Tfo_38_1 rfl rfl) ?_
   refine Run.y (.slice A_v21 n c_v21) rfl (OpY.load1 Tone_24 rfl (Cells.blk (.head _) ⟨rfl, trivial⟩)) ?_
   refine Run.q (v := .int .i64 (((unl ly n : Nat) : Int))) rfl (OpQ.call (vs := [.slice A_v21 n c_v21]) (caps := []) Tcall_58 rfl rfl (fun w hs => l19Open_spec (ly := ly) hn10 (hs.slOwn (.tail _ (.tail _ (.tail _ (.tail _ (List.Mem.head _)))))))) ?_
   refine Run.p (.int .i64 (((unl ly n : Nat) : Int))) rfl rfl ?_
   refine Run.done ?_
   refine Run.seq ?_
   refine Run.sr ?_
   refine Run.p (.int .i64 (((unl ly n : Nat) : Int))) rfl rfl ?_
   refine Run.p (.bool ((((unl ly n : Nat) : Int)) == 0)) rfl rfl ?_
   refine Run.done ?_
   refine Run.cond (b := (((unl ly n : Nat) : Int)) == 0) rfl (fun h21 => ?_) (fun h21 => ?_)
   ·have p21 := h21; try simp only [bs] at p21
    have hres := gf_some (hinv.stop (by omega))
    refine Run.sr ?_
    refine Run.y (.agg #[.slice A_v11 n c_v11, .slice A_v21 n c_v21]) rfl (OpY.loadN (cs := [.slice A_v11 n c_v11, .slice A_v21 n c_v21]) Tagg_38 rfl (Cells.blk (.head _) ⟨rfl, rfl, trivial⟩)) ?_
    refine Run.step rfl (OpStep.storeAll (us := [.slice A_v11 n c_v11, .slice A_v21 n c_v21]) Tsize_38 rfl rfl rfl (.there _ (.here _)) rfl ?_)
    refine Run.p (.bool true) rfl rfl ?_
    refine Run.done ?_
    refine Run.ret ?_
    refine ⟨.tuple #[.agg #[.slice A_v11 n c_v11, .slice A_v21 n c_v21], .bool true], [.own (.slice A_v11 n c_v11) 3 1 n (ints ss), .own (.slice A_v21 n c_v21) 3 1 n (ints ly)], Out.cell2 (cs := [.slice A_v11 n c_v11, .slice A_v21 n c_v21]) rfl Tagg_38 rfl (Cells.blk (.tail _ (List.Mem.head _)) ⟨rfl, rfl, trivial⟩) rfl, (Some'.weak (.skip (.skip (.skip (.take (.take (.nil _))))))), ?_⟩
    exact ⟨_, _, by rw [hres.2.2], by rw [hres.1, hres.2.1, hnl, hll]⟩
   ·have p21 := h21; try simp only [bs] at p21
    have h0 : unl ly n ≠ 0 := by omega
    have hlm : unl ly n ||| mskK is ni < 2 ^ n := Nat.or_lt_two_pow hul hmk
    refine Run.skip ?_
    refine Run.seq ?_
    refine Run.sr ?_
    refine Run.p (.int .i64 1) rfl rfl ?_
    refine Run.done ?_
    refine Run.block ?_
    refine Run.loop (ι := Nat × List Int × List Int) ([7, 8, 23, 24, 25, 26, 27, 28, 29, 30, 31, 32, 33, 34, 35, 36, 37, 38, 39, 40, 41, 42, 43, 44, 45, 46, 47, 48, 49, 50, 51, 52, 53, 54, 55, 56, 57, 58, 59, 60, 61, 62, 63, 64, 65, 66, 67, 68, 69, 70] ++ [71]) (fun ⟨s, A, L⟩ => [(7, .int .i64 (((s : Nat) : Int)))]) (fun ⟨s, A, L⟩ => [.blk b4 38 [.slice A_v11 n c_v11, .slice A_v21 n c_v21], .blk b2 38 [.slice none 0 0, .slice none 0 0], .blk b1 26 [.int .i64 (((n : Nat) : Int)), ve, vi, vo], .own (.slice A_v11 n c_v11) 3 1 n (ints A), .own (.slice A_v21 n c_v21) 3 1 n (ints L)]) (fun ⟨s, A, L⟩ => 1 ≤ s ∧ s ≤ qn ∧ UpI (fun s v => svB es m n (allw is ni n (unl ly n)) (unl ly n) v s) n s k ss ly A L) (fun ⟨s, A, L⟩ => qn - s) (1, ss, ly) ?_ ?_ ?_ ?_
    ·exact ⟨Nat.le_refl _, hqn1, (UpI.start hnl hll).miss fun w _ h => by rw [sv_zero] at h; cases h⟩
    ·exact ⟨rfl, trivial⟩
    ·exact ((Weak.refl _).trans (Some'.weak (.take (.take (.take (.takeEq (by first | rfl | simp) (.takeEq (by first | rfl | simp) (.nil _))))))))
    ·rintro ⟨s, A, L⟩ fr hinv
     show Run _ _ (over _ _ [(7, .int .i64 (((s : Nat) : Int)))] fr) [.blk b4 38 [.slice A_v11 n c_v11, .slice A_v21 n c_v21], .blk b2 38 [.slice none 0 0, .slice none 0 0], .blk b1 26 [.int .i64 (((n : Nat) : Int)), ve, vi, vo], .own (.slice A_v11 n c_v11) 3 1 n (ints A), .own (.slice A_v21 n c_v21) 3 1 n (ints L)]
     try dsimp only at hinv
     refine Run.seq ?_
     refine Run.sr ?_
     refine Run.p (.int .i64 (((s : Nat) : Int))) rfl rfl ?_
     refine Run.y (.pointer (some ⟨b1, 0, none⟩)) rfl (OpY.fieldAddr Tfo_26_0 rfl rfl) ?_
     refine Run.y (.int .i64 (((n : Nat) : Int))) rfl (OpY.load1 Tone_3 rfl (Cells.blk (.tail _ (.tail _ (List.Mem.head _))) ⟨rfl, trivial⟩)) ?_
     refine Run.y (.int .u64 (((n : Nat) : Int))) rfl (OpY.convIntEq Tsome_3 Tint_52 rfl (by rw [IntKind.wrap_u64]; omega)) ?_
     refine Run.y (.int .i64 (((qn : Nat) : Int))) rfl (OpY.shlOne rfl rfl rfl (by omega) hqn) ?_
     refine Run.p (.bool (decide ((((s : Nat) : Int)) < (((qn : Nat) : Int))))) rfl rfl ?_
     refine Run.done ?_
     refine Run.cond (b := decide ((((s : Nat) : Int)) < (((qn : Nat) : Int)))) rfl (fun h28 => ?_) (fun h28 => ?_)
     ·have p28 := h28; try simp only [bs] at p28
      obtain ⟨hs1, hsl, hup⟩ := hinv
      have hsq : s < qn := by omega
      have hAl := hup.la
      have hLl := hup.ll
      have hol := oddM_lt es m n s n
      have holl : oddM es m n s n &&& unl ly n < 2 ^ n := Nat.lt_of_le_of_lt Nat.and_le_left hol
      have hsx : s &&& (unl ly n ||| mskK is ni) < 2 ^ n := Nat.lt_of_le_of_lt Nat.and_le_left (by omega)
      refine Run.skip ?_
      refine Run.seq ?_
      refine Run.block ?_
      refine Run.seq ?_
      refine Run.sr ?_
      refine Run.p (.int .i64 (((s : Nat) : Int))) rfl rfl ?_
      refine Run.p (.int .i64 (((unl ly n : Nat) : Int))) rfl rfl ?_
      refine Run.y (.pointer (some ⟨b1, 2, none⟩)) rfl (OpY.fieldAddr Tfo_26_2 rfl rfl) ?_
      refine Run.y (vi) rfl (OpY.load1 Tone_24 rfl (Cells.blk (.tail _ (.tail _ (List.Mem.head _))) ⟨rfl, trivial⟩)) ?_
      refine Run.q (v := .int .i64 (((mskK is ni : Nat) : Int))) rfl (OpQ.call (vs := [vi]) (caps := []) Tcall_68 rfl rfl (fun w hs => l19Mask_spec hn10 (ris_in hri) (hs.sl hi))) ?_
      refine Run.y (.int .i64 (((unl ly n ||| mskK is ni : Nat) : Int))) rfl (OpY.orNat rfl rfl rfl rfl (by omega) (by omega)) ?_
      refine Run.y (.int .i64 (((s &&& (unl ly n ||| mskK is ni) : Nat) : Int))) rfl (OpY.andNat2 rfl rfl (by omega) (by omega)) ?_
      refine Run.p (.bool ((((s &&& (unl ly n ||| mskK is ni) : Nat) : Int)) != 0)) rfl rfl ?_
      refine Run.done ?_
      refine Run.cond (b := (((s &&& (unl ly n ||| mskK is ni) : Nat) : Int)) != 0) rfl (fun h38 => ?_) (fun h38 => ?_)
      ·have p38 := h38; try simp only [bs] at p38
       have hmiss : ∀ w, w < n → svB es m n (allw is ni n (unl ly n)) (unl ly n) w s = true → 0 ≤ ix L w ∧ ix ly w < 0 := fun w hw h => by
        simp only [svB, Bool.and_eq_true, decide_eq_true_eq] at h
        exact absurd ((al_iff (by omega)).2 h.1.2) (by omega)
       refine Run.exit rfl ?_
       refine Run.region ?_
       refine Run.p (.int .i64 (((s : Nat) : Int))) rfl rfl ?_
       refine Run.y (.int .i64 (((s + 1 : Nat) : Int))) rfl (OpY.add rfl rfl (by omega) (by omega) (by omega)) ?_
       refine Run.p (.int .i64 (((s + 1 : Nat) : Int))) rfl rfl ?_
       refine Run.done ?_
       refine Run.goal ⟨(by repeat (first | exact Same.refl _ _ | refine Same.put rfl ?_ | refine Same.over rfl rfl ?_)), (s + 1, A, L), ?_, ?_, ?_, ?_⟩
       ·first | exact ⟨by omega, by omega, hhit⟩ | exact ⟨by omega, by omega, hup.miss hmiss⟩
       ·show qn - (s + 1) < qn - s; omega
       ·exact ⟨(by first | rfl | (congr 1; omega) | simp), trivial⟩
       ·exact ((Weak.refl _).trans (Some'.weak (.take (.take (.take (.takeEq (by first | rfl | simp) (.takeEq (by first | rfl | simp) (.nil _))))))))
      ·have p38 := h38; try simp only [bs] at p38
       have hal : s &&& allw is ni n (unl ly n) = s := (al_iff (by omega)).1 (by omega)
       refine Run.skip ?_
       refine Run.sr ?_
       refine Run.y (.agg #[.int .i64 (((n : Nat) : Int)), ve, vi, vo]) rfl (OpY.loadN (cs := [.int .i64 (((n : Nat) : Int)), ve, vi, vo]) Tagg_26 rfl (Cells.blk (.tail _ (.tail _ (List.Mem.head _))) ⟨rfl, rfl, rfl, rfl, trivial⟩)) ?_
       refine Run.p (.int .i64 (((s : Nat) : Int))) rfl rfl ?_
       refine Run.q (v := .int .i64 (((oddM es m n s n : Nat) : Int))) rfl (OpQ.call (vs := [.agg #[.int .i64 (((n : Nat) : Int)), ve, vi, vo], .int .i64 (((s : Nat) : Int))]) (caps := []) Tcall_69 rfl rfl (fun w hs => l19Odd_spec (set := s) hn10 (by omega) hes (hs.sl he))) ?_
       refine Run.p (.int .i64 (((unl ly n : Nat) : Int))) rfl rfl ?_
       refine Run.y (.int .i64 (((oddM es m n s n &&& unl ly n : Nat) : Int))) rfl (OpY.andNat2 rfl rfl (by omega) (by omega)) ?_
       refine Run.step rfl (OpStep.call (vs := [.int .i64 (((oddM es m n s n &&& unl ly n : Nat) : Int))]) (caps := []) Tcall_60 rfl rfl (fun w hs => (by have h := l1Set_spec (x := ((oddM es m n s n &&& unl ly n : Nat) : Int)) (w := w) (by omega) (by omega); rw [setL_nat holl (by omega)] at h; exact h)) ?_)
       rintro us _ ⟨hs24, rfl⟩
       show Run _ _ (putF _ _ _ us) [.own us 3 1 ((setN (oddM es m n s n &&& unl ly n) n).length) (ints (setN (oddM es m n s n &&& unl ly n) n)), .blk b4 38 [.slice A_v11 n c_v11, .slice A_v21 n c_v21], .blk b2 38 [.slice none 0 0, .slice none 0 0], .blk b1 26 [.int .i64 (((n : Nat) : Int)), ve, vi, vo], .own (.slice A_v11 n c_v11) 3 1 n (ints A), .own (.slice A_v21 n c_v21) 3 1 n (ints L)]
       refine Run.p (us) rfl rfl ?_
       refine Run.done ?_
       refine Run.seq ?_
       refine Run.formOwn (.head _) (fun A_us1 c_us1 hv hcapc_us1 hmaxc_us1 => ?_) (fun _ _ _ => ⟨nofun, nofun, nofun⟩)
       subst hv
       refine Run.held (by kernel_rfl) ?_
       refine DW.take (i := 0) (v := .slice A_us1 ((setN (oddM es m n s n &&& unl ly n) n).length) c_us1) rfl (by kernel_rfl) (by kernel_rfl) (by kernel_rfl) (fun _ _ _ h => h) (Weak.refl _) rfl (OpY.pure rfl) ?_
       refine DW.take (i := 1) (v := .int .i64 ((((setN (oddM es m n s n &&& unl ly n) n).length : Nat) : Int))) rfl (by kernel_rfl) (by kernel_rfl) (by kernel_rfl) (fun _ _ _ h => h) (Weak.refl _) rfl (OpY.len Tsl_24 rfl) ?_
       refine DW.take (i := 2) (v := .bool (((((setN (oddM es m n s n &&& unl ly n) n).length : Nat) : Int)) == 1)) rfl (by kernel_rfl) (by kernel_rfl) (by kernel_rfl) (fun _ _ _ h => h) (Weak.refl _) rfl (OpY.pure rfl) ?_
       rcases Bool.eq_false_or_eq_true (((((setN (oddM es m n s n &&& unl ly n) n).length : Nat) : Int)) == 1) with h48 | h48
       ·refine DW.take (i := 3) (v := .bool true) rfl (by kernel_rfl) (by kernel_rfl) (by kernel_rfl) (fun _ _ _ h => h) (Weak.refl _) rfl (OpY.moveB rfl h48) ?_
        have p48 := h48; try simp only [bs] at p48
        have hln1 : (setN (oddM es m n s n &&& unl ly n) n).length = 1 := by omega
        obtain ⟨v0, hv0, ha2, hse⟩ := one_bit holl hln1
        have hx0 : ix (setN (oddM es m n s n &&& unl ly n) n) 0 = (v0 : Int) := by rw [hse]; rfl
        have hlo : ∀ w, oddM es m n s n &&& unl ly n = 2 ^ w → w = v0 := fun w h => (Nat.pow_right_inj (by omega)).1 (h.symm.trans ha2)
        have hsv : svB es m n (allw is ni n (unl ly n)) (unl ly n) v0 s = true := by unfold svB; rw [decide_eq_true (show 0 < s by omega), decide_eq_true hal, decide_eq_true ha2]; rfl
        refine DW.openOwn (.head _) (by omega) (fun gn cgn hvgn hcapgn _ => ?_)
        injection hvgn with hAgn _ hcgn; subst hAgn; subst hcgn
        refine DW.openOwn (.tail _ (.tail _ (.tail _ (.tail _ (.tail _ (List.Mem.head _)))))) (by omega) (fun g2 cg2 hvg2 hcapg2 _ => ?_)
        injection hvg2 with hAg2 _ hcg2; subst hAg2; subst hcg2
        refine DW.take (i := 4) (v := .pointer (some ⟨b4, 1, none⟩)) rfl (by kernel_rfl) (by kernel_rfl) (by kernel_rfl) (fun _ _ _ h => h) (Weak.refl _) rfl (OpY.fieldAddr Tfo_38_1 rfl rfl) ?_
        refine DW.take (i := 5) (v := .slice (some ⟨g2, 0, none⟩) n c_v21) rfl (by kernel_rfl) (by kernel_rfl) (by kernel_rfl) (fun _ _ _ h => h) (Weak.refl _) rfl (OpY.load1 Tone_24 rfl (Cells.blk (.tail _ (List.Mem.head _)) ⟨rfl, trivial⟩)) ?_
        refine DW.take (i := 6) (v := .slice (some ⟨gn, 0, none⟩) ((setN (oddM es m n s n &&& unl ly n) n).length) c_us1) rfl (by kernel_rfl) (by kernel_rfl) (by kernel_rfl) (fun _ _ _ h => h) (Weak.refl _) rfl (OpY.pure rfl) ?_
        refine DW.take (i := 7) (v := .pointer (some ⟨gn, 0, none⟩)) rfl (by kernel_rfl) (by kernel_rfl) (by kernel_rfl) (fun _ _ _ h => h) (Weak.refl _) rfl (OpY.index (kk := 0) Tsl_24 rfl rfl (by omega) (by omega) (by first | rfl | omega)) ?_
        refine DW.take (i := 8) (v := .int .i64 (ix (setN (oddM es m n s n &&& unl ly n) n) (0))) rfl (by kernel_rfl) (by kernel_rfl) (by kernel_rfl) (fun _ _ _ h => h) (Weak.refl _) rfl (OpY.load1 Tone_3 rfl (Cells.own0 (.head _) (pre1 (by first | omega | (simp only [ints_length, List.length_set]; omega))))) ?_
        refine DW.take (i := 9) (v := .pointer (some ⟨g2, v0, none⟩)) rfl (by kernel_rfl) (by kernel_rfl) (by kernel_rfl) (fun _ _ _ h => h) (Weak.refl _) rfl (OpY.index (kk := v0) Tsl_24 rfl rfl (by omega) (by omega) (by first | rfl | omega)) ?_
        refine DW.take (i := 10) (v := .int .i64 (ix L (v0))) rfl (by kernel_rfl) (by kernel_rfl) (by kernel_rfl) (fun _ _ _ h => h) (Weak.refl _) rfl (OpY.load1 Tone_3 rfl (Cells.own0 (.tail _ (.tail _ (.tail _ (.tail _ (.tail _ (List.Mem.head _)))))) (pre1 (by first | omega | (simp only [ints_length, List.length_set]; omega))))) ?_
        refine DW.take (i := 11) (v := .bool (decide ((ix L (v0)) < 0))) rfl (by kernel_rfl) (by kernel_rfl) (by kernel_rfl) (fun _ _ _ h => h) (Weak.refl _) rfl (OpY.pure rfl) ?_
        refine DW.take (i := 12) (v := .bool (decide ((ix L (v0)) < 0))) rfl (by kernel_rfl) (by kernel_rfl) (by kernel_rfl) (fun _ _ _ h => h) (Weak.refl _) rfl (OpY.pure rfl) ?_
        refine DW.done (by kernel_rfl) ?_
        refine Run.cond (b := decide ((ix L (v0)) < 0)) rfl (fun h57 => ?_) (fun h57 => ?_)
        ·have p57 := h57; try simp only [bs] at p57
         have hhit := hup.hit hv0 (by omega) hsv fun w hw hne => by
          cases h : svB es m n (allw is ni n (unl ly n)) (unl ly n) w s with
          | false => rfl
          | true => simp only [svB, Bool.and_eq_true, decide_eq_true_eq] at h; exact absurd (hlo w h.2) hne
         refine Run.seq ?_
         refine Run.openOwn (.tail _ (.tail _ (.tail _ (.tail _ (List.Mem.head _))))) (by omega) (fun g1 cg1 hvg1 hcapg1 _ => ?_) (fun _ _ _ => ⟨nofun, nofun, nofun⟩)
         injection hvg1 with hAg1 _ hcg1; subst hAg1; subst hcg1
         refine Run.lastly [7] (by kernel_rfl) ?_
         refine DL.takeP (i := 0) (v := .pointer (some ⟨b4, 0, none⟩)) rfl (by kernel_rfl) (by kernel_rfl) (by kernel_rfl) (fun _ _ _ h => h) rfl (fun _ => OpY.fieldAddr Tfo_38_0 rfl rfl) ?_
         refine DL.take (i := 1) (v := .slice (some ⟨g1, 0, none⟩) n c_v11) rfl (by kernel_rfl) (by kernel_rfl) (by kernel_rfl) (by kernel_rfl) (fun _ _ _ h => h) (Some'.weak (.take (.take (.take (.take (.take (.take (.nil _)))))))) rfl (OpY.load1 Tone_24 rfl (Cells.blk (.tail _ (List.Mem.head _)) ⟨rfl, trivial⟩)) ?_
         refine DL.takeP (i := 2) (v := .slice (some ⟨gn, 0, none⟩) ((setN (oddM es m n s n &&& unl ly n) n).length) c_us1) rfl (by kernel_rfl) (by kernel_rfl) (by kernel_rfl) (fun _ _ _ h => h) rfl (fun _ => OpY.pure rfl) ?_
         refine DL.takeP (i := 3) (v := .pointer (some ⟨gn, 0, none⟩)) rfl (by kernel_rfl) (by kernel_rfl) (by kernel_rfl) (fun _ _ _ h => h) rfl (fun _ => OpY.index (kk := 0) Tsl_24 rfl rfl (by omega) (by omega) (by first | rfl | omega)) ?_
         refine DL.take (i := 4) (v := .int .i64 (ix (setN (oddM es m n s n &&& unl ly n) n) (0))) rfl (by kernel_rfl) (by kernel_rfl) (by kernel_rfl) (by kernel_rfl) (fun _ _ _ h => h) (Some'.weak (.take (.take (.take (.take (.take (.take (.nil _)))))))) rfl (OpY.load1 Tone_3 rfl (Cells.own0 (.head _) (pre1 (by first | omega | (simp only [ints_length, List.length_set]; omega))))) ?_
         refine DL.takeP (i := 5) (v := .int .i64 (((s : Nat) : Int))) rfl (by kernel_rfl) (by kernel_rfl) (by kernel_rfl) (fun _ _ _ h => h) rfl (fun _ => OpY.pure rfl) ?_
         refine DL.takeP (i := 6) (v := .pointer (some ⟨g1, v0, none⟩)) rfl (by kernel_rfl) (by kernel_rfl) (by kernel_rfl) (fun _ _ _ h => h) rfl (fun _ => OpY.index (kk := v0) Tsl_24 rfl rfl (by omega) (by omega) (by first | rfl | omega)) ?_
         refine DL.step (i := 7) (by kernel_rfl) (by kernel_rfl) rfl rfl (OpStep.storeOwnInt (o := v0) (a := ((s : Nat) : Int)) Tsize_3 rfl rfl (.there _ (.there _ (.there _ (.there _ (.here _))))) (by first | omega | (simp only [ints_length, List.length_set]; omega)) ?_)
         refine DL.done (by kernel_rfl) ?_
         refine Run.lastly [7] (by kernel_rfl) ?_
         refine DL.takeP (i := 0) (v := .pointer (some ⟨b4, 1, none⟩)) rfl (by kernel_rfl) (by kernel_rfl) (by kernel_rfl) (fun _ _ _ h => h) rfl (fun _ => OpY.fieldAddr Tfo_38_1 rfl rfl) ?_
         refine DL.take (i := 1) (v := .slice (some ⟨g2, 0, none⟩) n c_v21) rfl (by kernel_rfl) (by kernel_rfl) (by kernel_rfl) (by kernel_rfl) (fun _ _ _ h => h) (Some'.weak (.take (.take (.take (.take (.take (.take (.nil _)))))))) rfl (OpY.load1 Tone_24 rfl (Cells.blk (.tail _ (List.Mem.head _)) ⟨rfl, trivial⟩)) ?_
         refine DL.takeP (i := 2) (v := .slice (some ⟨gn, 0, none⟩) ((setN (oddM es m n s n &&& unl ly n) n).length) c_us1) rfl (by kernel_rfl) (by kernel_rfl) (by kernel_rfl) (fun _ _ _ h => h) rfl (fun _ => OpY.pure rfl) ?_
         refine DL.takeP (i := 3) (v := .pointer (some ⟨gn, 0, none⟩)) rfl (by kernel_rfl) (by kernel_rfl) (by kernel_rfl) (fun _ _ _ h => h) rfl (fun _ => OpY.index (kk := 0) Tsl_24 rfl rfl (by omega) (by omega) (by first | rfl | omega)) ?_
         refine DL.take (i := 4) (v := .int .i64 (ix (setN (oddM es m n s n &&& unl ly n) n) (0))) rfl (by kernel_rfl) (by kernel_rfl) (by kernel_rfl) (by kernel_rfl) (fun _ _ _ h => h) (Some'.weak (.take (.take (.take (.take (.take (.take (.nil _)))))))) rfl (OpY.load1 Tone_3 rfl (Cells.own0 (.head _) (pre1 (by first | omega | (simp only [ints_length, List.length_set]; omega))))) ?_
         refine DL.takeP (i := 5) (v := .int .i64 (((k : Nat) : Int))) rfl (by kernel_rfl) (by kernel_rfl) (by kernel_rfl) (fun _ _ _ h => h) rfl (fun _ => OpY.pure rfl) ?_
         refine DL.takeP (i := 6) (v := .pointer (some ⟨g2, v0, none⟩)) rfl (by kernel_rfl) (by kernel_rfl) (by kernel_rfl) (fun _ _ _ h => h) rfl (fun _ => OpY.index (kk := v0) Tsl_24 rfl rfl (by omega) (by omega) (by first | rfl | omega)) ?_
         refine DL.step (i := 7) (by kernel_rfl) (by kernel_rfl) rfl rfl (OpStep.storeOwnInt (o := v0) (a := ((k : Nat) : Int)) Tsize_3 rfl rfl (.there _ (.there _ (.there _ (.there _ (.there _ (.here _)))))) (by first | omega | (simp only [ints_length, List.length_set]; omega)) ?_)
         refine DL.done (by kernel_rfl) ?_
         refine Run.blockEnd ?_
         refine Run.region ?_
         refine Run.p (.int .i64 (((s : Nat) : Int))) rfl rfl ?_
         refine Run.y (.int .i64 (((s + 1 : Nat) : Int))) rfl (OpY.add rfl rfl (by omega) (by omega) (by omega)) ?_
         refine Run.p (.int .i64 (((s + 1 : Nat) : Int))) rfl rfl ?_
         refine Run.done ?_
         refine Run.goal ⟨(by repeat (first | exact Same.refl _ _ | refine Same.put rfl ?_ | refine Same.over rfl rfl ?_)), (s + 1, (A.set v0 (((s : Nat) : Int))), (L.set v0 (((k : Nat) : Int)))), ?_, ?_, ?_, ?_⟩
         ·first | exact ⟨by omega, by omega, hhit⟩ | exact ⟨by omega, by omega, hup.miss hmiss⟩
         ·show qn - (s + 1) < qn - s; omega
         ·exact ⟨(by first | rfl | (congr 1; omega) | simp), trivial⟩
         ·exact ((Weak.selF [1, 1, 1, 1, 1]).trans (Some'.weak (.takeEq (by first | rfl | simp) (.take (.take (.takeEq (by first | rfl | simp) (.takeEq (by first | rfl | simp) (.nil _))))))))
        ·have p57 := h57; try simp only [bs] at p57
         have hmiss : ∀ w, w < n → svB es m n (allw is ni n (unl ly n)) (unl ly n) w s = true → 0 ≤ ix L w ∧ ix ly w < 0 := fun w hw h => by
          simp only [svB, Bool.and_eq_true, decide_eq_true_eq] at h
          have e := hlo w h.2
          subst e
          have hbit : (unl ly n).testBit w = true := by
           have h4 := congrArg (fun x => x.testBit w) ha2
           simp only [Nat.testBit_and, Nat.testBit_two_pow, decide_true, Bool.and_eq_true] at h4; exact h4.2
          rw [unl_neg hw] at hbit
          exact ⟨by omega, of_decide_eq_true hbit⟩
         refine Run.skip ?_
         refine Run.blockEnd ?_
         refine Run.region ?_
         refine Run.p (.int .i64 (((s : Nat) : Int))) rfl rfl ?_
         refine Run.y (.int .i64 (((s + 1 : Nat) : Int))) rfl (OpY.add rfl rfl (by omega) (by omega) (by omega)) ?_
         refine Run.p (.int .i64 (((s + 1 : Nat) : Int))) rfl rfl ?_
         refine Run.done ?_
         refine Run.goal ⟨(by repeat (first | exact Same.refl _ _ | refine Same.put rfl ?_ | refine Same.over rfl rfl ?_)), (s + 1, A, L), ?_, ?_, ?_, ?_⟩
         ·first | exact ⟨by omega, by omega, hhit⟩ | exact ⟨by omega, by omega, hup.miss hmiss⟩
         ·show qn - (s + 1) < qn - s; omega
         ·exact ⟨(by first | rfl | (congr 1; omega) | simp), trivial⟩
         ·exact ((Weak.selF [1, 1, 1, 1, 1]).trans (Some'.weak (.takeEq (by first | rfl | simp) (.take (.take (.takeEq (by first | rfl | simp) (.takeEq (by first | rfl | simp) (.nil _))))))))
       ·refine DW.take (i := 3) (v := .bool false) rfl (by kernel_rfl) (by kernel_rfl) (by kernel_rfl) (fun _ _ _ h => h) (Weak.refl _) rfl (OpY.moveB rfl h48) ?_
        have p48 := h48; try simp only [bs] at p48
        have hmiss : ∀ w, w < n → svB es m n (allw is ni n (unl ly n)) (unl ly n) w s = true → 0 ≤ ix L w ∧ ix ly w < 0 := fun w hw h => by
         simp only [svB, Bool.and_eq_true, decide_eq_true_eq] at h
         have h2 := h.2
         have h3 := set_pow (n := n) hw
         rw [← h2] at h3
         rw [h3] at p48; exact absurd rfl p48
        refine DW.pass (i := 4) rfl (by kernel_rfl) (by kernel_rfl) (by kernel_rfl) (fun _ _ _ h => h) (Weak.refl _) rfl ?_
        refine DW.pass (i := 5) rfl (by kernel_rfl) (by kernel_rfl) (by kernel_rfl) (fun _ _ _ h => h) (Weak.refl _) rfl ?_
        refine DW.pass (i := 6) rfl (by kernel_rfl) (by kernel_rfl) (by kernel_rfl) (fun _ _ _ h => h) (Weak.refl _) rfl ?_
        refine DW.pass (i := 7) rfl (by kernel_rfl) (by kernel_rfl) (by kernel_rfl) (fun _ _ _ h => h) (Weak.refl _) rfl ?_
        refine DW.pass (i := 8) rfl (by kernel_rfl) (by kernel_rfl) (by kernel_rfl) (fun _ _ _ h => h) (Weak.refl _) rfl ?_
        refine DW.pass (i := 9) rfl (by kernel_rfl) (by kernel_rfl) (by kernel_rfl) (fun _ _ _ h => h) (Weak.refl _) rfl ?_
        refine DW.pass (i := 10) rfl (by kernel_rfl) (by kernel_rfl) (by kernel_rfl) (fun _ _ _ h => h) (Weak.refl _) rfl ?_
        refine DW.pass (i := 11) rfl (by kernel_rfl) (by kernel_rfl) (by kernel_rfl) (fun _ _ _ h => h) (Weak.refl _) rfl ?_
        refine DW.take (i := 12) (v := .bool false) rfl (by kernel_rfl) (by kernel_rfl) (by kernel_rfl) (fun _ _ _ h => h) (Weak.refl _) rfl (OpY.pure rfl) ?_
        refine DW.done (by kernel_rfl) ?_
        refine Run.cond (b := false) rfl (fun h => nomatch h) (fun _ => ?_)
        refine Run.skip ?_
        refine Run.blockEnd ?_
        refine Run.region ?_
        refine Run.p (.int .i64 (((s : Nat) : Int))) rfl rfl ?_
        refine Run.y (.int .i64 (((s + 1 : Nat) : Int))) rfl (OpY.add rfl rfl (by omega) (by omega) (by omega)) ?_
        refine Run.p (.int .i64 (((s + 1 : Nat) : Int))) rfl rfl ?_
        refine Run.done ?_
        refine Run.goal ⟨(by repeat (first | exact Same.refl _ _ | refine Same.put rfl ?_ | refine Same.over rfl rfl ?_)), (s + 1, A, L), ?_, ?_, ?_, ?_⟩
        ·first | exact ⟨by omega, by omega, hhit⟩ | exact ⟨by omega, by omega, hup.miss hmiss⟩
        ·show qn - (s + 1) < qn - s; omega
        ·exact ⟨(by first | rfl | (congr 1; omega) | simp), trivial⟩
        ·exact ((Weak.selF [1, 1, 1, 1, 1]).trans (Some'.weak (.take (.take (.take (.takeEq (by first | rfl | simp) (.takeEq (by first | rfl | simp) (.nil _))))))))
     ·have p28 := h28; try simp only [bs] at p28
      obtain ⟨hs1, hsl, hup⟩ := hinv
      rw [show s = 2 ^ n by omega] at hup
      obtain ⟨hfA, hfL⟩ := gf_fin hup.la hup.ll hup
      refine Run.exit rfl ?_
      refine Run.sr ?_
      refine Run.y (.pointer (some ⟨b4, 1, none⟩)) rfl (OpY.fieldAddr Tfo_38_1 rfl rfl) ?_
      refine Run.y (.slice A_v21 n c_v21) rfl (OpY.load1 Tone_24 rfl (Cells.blk (.head _) ⟨rfl, trivial⟩)) ?_
      refine Run.q (v := .int .i64 (((unl L n : Nat) : Int))) rfl (OpQ.call (vs := [.slice A_v21 n c_v21]) (caps := []) Tcall_58 rfl rfl (fun w hs => l19Open_spec (ly := L) hn10 (hs.slOwn (.tail _ (.tail _ (.tail _ (.tail _ (List.Mem.head _)))))))) ?_
      refine Run.p (.int .i64 (((unl ly n : Nat) : Int))) rfl rfl ?_
      refine Run.p (.bool ((((unl L n : Nat) : Int)) == (((unl ly n : Nat) : Int)))) rfl rfl ?_
      refine Run.done ?_
      refine Run.cond (b := (((unl L n : Nat) : Int)) == (((unl ly n : Nat) : Int))) rfl (fun h76 => ?_) (fun h76 => ?_)
      ·have p76 := h76; try simp only [bs] at p76
       have hres := gf_none (hloop.none h0 (by rw [← hfL]; omega))
       refine Run.sr ?_
       refine Run.y (.agg #[.slice none 0 0, .slice none 0 0]) rfl (OpY.build (cs := [.slice none 0 0, .slice none 0 0]) (by kernel_rfl)) ?_
       refine Run.step rfl (OpStep.storeAll (us := [.slice none 0 0, .slice none 0 0]) Tsize_38 rfl rfl rfl (.there _ (.here _)) rfl ?_)
       refine Run.p (.bool false) rfl rfl ?_
       refine Run.done ?_
       refine Run.ret ?_
       refine ⟨.tuple #[.agg #[.slice none 0 0, .slice none 0 0], .bool false], [.own (.slice none 0 0) 3 1 0 ([]), .own (.slice none 0 0) 3 1 0 ([])], Out.cell2 (cs := [.slice none 0 0, .slice none 0 0]) rfl Tagg_38 rfl (Cells.blk (.tail _ (List.Mem.head _)) ⟨rfl, rfl, trivial⟩) rfl, ((Weak.nilOwn 3 1).trans ((Weak.nilOwn 3 1).trans (Some'.weak (.take (.take (.nil _)))))), ?_⟩
       exact ⟨_, _, by rw [hres.2.2], by rw [hres.1, hres.2.1]; rfl⟩
      ·have p76 := h76; try simp only [bs] at p76
       have hnext := hloop.next (ris_pos hri) h0 (by rw [← hfL]; omega)
       rw [← hfA, ← hfL] at hnext
       refine Run.skip ?_
       refine Run.blockEnd ?_
       refine Run.region ?_
       refine Run.p (.int .i64 (((k : Nat) : Int))) rfl rfl ?_
       refine Run.y (.int .i64 (((k + 1 : Nat) : Int))) rfl (OpY.add rfl rfl (by omega) (by omega) (by omega)) ?_
       refine Run.p (.int .i64 (((k + 1 : Nat) : Int))) rfl rfl ?_
       refine Run.done ?_
       refine Run.goal ⟨(by repeat (first | exact Same.refl _ _ | refine Same.put rfl ?_ | refine Same.over rfl rfl ?_)), (f2, k + 1, A, L), ?_, ?_, ?_, ?_⟩
       ·exact hnext
       ·show f2 < f2 + 1; omega
       ·exact ⟨(by show Value.int _ _ = Value.int _ _; congr 1), trivial⟩
       ·exact ((Weak.refl _).trans (Some'.weak (.take (.take (.take (.takeEq (by first | rfl | simp) (.takeEq (by first | rfl | simp) (.nil _))))))))

set_option maxHeartbeats 1000000 in
set_option maxRecDepth 20000 in
theorem sGFlowOf_spec {ve vi vo : Value} {n m ni no : Nat} {es is os : List Int} {w : World} (hn11 : n ≤ 11) (he : Sl w ve 2 m (ints es)) (hi : Sl w vi 1 ni (ints is)) (ho : Sl w vo 1 no (ints os)) (hsm : ∀ x ∈ es, 0 ≤ x ∧ x ≤ 100) : Calls Try.prog 17 #[.agg #[.int .i64 (n : Int), ve, vi, vo]] w (Post No w fun v H => ∃ u1 u2, v = .tuple #[.agg #[u1, u2], .bool (gfO es m n is ni os no).isSome] ∧ H = [.own u1 3 1 (gfA es m n is ni os no).length (ints (gfA es m n is ni os no)), .own u2 3 1 (gfL es m n is ni os no).length (ints (gfL es m n is ni os no))]) := by
 refine enter (n := 12) (args := [.agg #[.int .i64 (((n : Nat) : Int)), ve, vi, vo]]) Try.func17 rfl rfl (St.empty _ _) ?_
 refine Run.sr ?_
 refine Run.step rfl (OpStep.box (us := [.int .i64 (((n : Nat) : Int)), ve, vi, vo]) rfl fun b1 => ?_)
 refine Run.step rfl (OpStep.alloc (zs := [.slice none 0 0, .slice none 0 0]) Tzero_38 fun b2 => ?_)
 refine Run.p (.bool false) rfl rfl ?_
 refine Run.done ?_
 refine Run.seq ?_
 refine Run.sr ?_
 refine Run.y (.agg #[.int .i64 (((n : Nat) : Int)), ve, vi, vo]) rfl (OpY.loadN (cs := [.int .i64 (((n : Nat) : Int)), ve, vi, vo]) Tagg_26 rfl (Cells.blk (.tail _ (List.Mem.head _)) ⟨rfl, rfl, rfl, rfl, trivial⟩)) ?_
 refine Run.q (v := .bool (ogB n es m is ni os no)) rfl (OpQ.call (vs := [.agg #[.int .i64 (((n : Nat) : Int)), ve, vi, vo]]) (caps := []) Tcall_32 rfl rfl (fun w hs => l19Good_spec hn11 (hs.sl he) (hs.sl hi) (hs.sl ho) hsm)) ?_
 refine Run.p (.bool (!(ogB n es m is ni os no))) rfl rfl ?_
 refine Run.done ?_
 refine Run.cond (b := !(ogB n es m is ni os no)) rfl (fun h6 => ?_) (fun h6 => ?_)
 ·have p6 := h6; try simp only [bs] at p6
  have hg : ogB n es m is ni os no = false := by simpa using p6
  have hres := gf_none (gf_bad hg)
  refine Run.sr ?_
  refine Run.y (.agg #[.slice none 0 0, .slice none 0 0]) rfl (OpY.build (cs := [.slice none 0 0, .slice none 0 0]) (by kernel_rfl)) ?_
  refine Run.step rfl (OpStep.storeAll (us := [.slice none 0 0, .slice none 0 0]) Tsize_38 rfl rfl rfl (.here _) rfl ?_)
  refine Run.p (.bool false) rfl rfl ?_
  refine Run.done ?_
  refine Run.ret ?_
  refine ⟨.tuple #[.agg #[.slice none 0 0, .slice none 0 0], .bool false], [.own (.slice none 0 0) 3 1 0 ([]), .own (.slice none 0 0) 3 1 0 ([])], Out.cell2 (cs := [.slice none 0 0, .slice none 0 0]) rfl Tagg_38 rfl (Cells.blk (.head _) ⟨rfl, rfl, trivial⟩) rfl, ((Weak.nilOwn 3 1).trans ((Weak.nilOwn 3 1).trans (Some'.weak (.take (.take (.nil _)))))), ?_⟩
  exact ⟨_, _, by rw [hres.2.2], by rw [hres.1, hres.2.1]; rfl⟩
 ·have p6 := h6; try simp only [bs] at p6
  have hg : ogB n es m is ni os no = true := by simpa using p6
  refine Run.skip ?_
  refine Run.sr ?_
  refine Run.y (.agg #[.int .i64 (((n : Nat) : Int)), ve, vi, vo]) rfl (OpY.loadN (cs := [.int .i64 (((n : Nat) : Int)), ve, vi, vo]) Tagg_26 rfl (Cells.blk (.tail _ (List.Mem.head _)) ⟨rfl, rfl, rfl, rfl, trivial⟩)) ?_
  refine Run.step rfl (OpStep.call (vs := [.agg #[.int .i64 (((n : Nat) : Int)), ve, vi, vo]]) (caps := []) Tcall_40 rfl rfl (fun w hs => l19General_spec (hs.sl he) (hs.sl hi) (hs.sl ho) hg) ?_)
  rintro _ _ ⟨u1, u2, rfl, rfl⟩
  show Run _ _ (putF _ _ _ (.tuple #[.agg #[u1, u2], .bool ((gfO es m n is ni os no).isSome)])) [.own u1 3 1 ((gfA es m n is ni os no).length) (ints (gfA es m n is ni os no)), .own u2 3 1 ((gfL es m n is ni os no).length) (ints (gfL es m n is ni os no)), .blk b2 38 [.slice none 0 0, .slice none 0 0], .blk b1 26 [.int .i64 (((n : Nat) : Int)), ve, vi, vo]]
  refine Run.p (.agg #[u1, u2]) rfl rfl ?_
  refine Run.p (.bool ((gfO es m n is ni os no).isSome)) rfl rfl ?_
  refine Run.formOwn (.head _) (fun A_u11 c_u11 hv hcapc_u11 hmaxc_u11 => ?_) (fun _ _ _ => ⟨nofun, nofun, nofun⟩)
  subst hv
  refine Run.formOwn (.tail _ (List.Mem.head _)) (fun A_u21 c_u21 hv hcapc_u21 hmaxc_u21 => ?_) (fun _ _ _ => ⟨nofun, nofun, nofun⟩)
  subst hv
  refine Run.step rfl (OpStep.storeAll (us := [.slice A_u11 ((gfA es m n is ni os no).length) c_u11, .slice A_u21 ((gfL es m n is ni os no).length) c_u21]) Tsize_38 rfl rfl rfl (.there _ (.there _ (.here _))) rfl ?_)
  refine Run.p (.bool ((gfO es m n is ni os no).isSome)) rfl rfl ?_
  refine Run.done ?_
  refine Run.ret ?_
  refine ⟨.tuple #[.agg #[.slice A_u11 ((gfA es m n is ni os no).length) c_u11, .slice A_u21 ((gfL es m n is ni os no).length) c_u21], .bool ((gfO es m n is ni os no).isSome)], [.own (.slice A_u11 ((gfA es m n is ni os no).length) c_u11) 3 1 ((gfA es m n is ni os no).length) (ints (gfA es m n is ni os no)), .own (.slice A_u21 ((gfL es m n is ni os no).length) c_u21) 3 1 ((gfL es m n is ni os no).length) (ints (gfL es m n is ni os no))], Out.cell2 (cs := [.slice A_u11 ((gfA es m n is ni os no).length) c_u11, .slice A_u21 ((gfL es m n is ni os no).length) c_u21]) rfl Tagg_38 rfl (Cells.blk (.tail _ (.tail _ (List.Mem.head _))) ⟨rfl, rfl, trivial⟩) rfl, (Some'.weak (.take (.take (.nil _)))), ?_⟩
  exact ⟨_, _, rfl, rfl⟩

end Go.Proofs.Ytoiaibgcjfgbcaa
