/- Walks: the search for generalised flows of the reference. -/
import Derived.Test.YtoiaibgcjfgbcaaG8
import Derived.Test.YtoiaibgcjfgbcaaProg
import Derived.Test.YtoiaibgcjfgbcaaG4
import Derived.Test.YtoiaibgcjfgbcaaG3
set_option linter.unusedSimpArgs false
set_option linter.unusedVariables false
namespace Go.Proofs.Ytoiaibgcjfgbcaa
open Go Go.RowKit
namespace FwhT
theorem Tagg_26 : aggOf Try.prog 26 = some 4 := by kernel_rfl
theorem Tagg_38 : aggOf Try.prog 38 = some 2 := by kernel_rfl
theorem Tcall_32 : callable Try.prog 32 = true := by kernel_rfl
theorem Tcall_40 : callable Try.prog 40 = true := by kernel_rfl
theorem Tcall_57 : callable Try.prog 57 = true := by kernel_rfl
theorem Tcall_58 : callable Try.prog 58 = true := by kernel_rfl
theorem Tcall_60 : callable Try.prog 60 = true := by kernel_rfl
theorem Tcall_68 : callable Try.prog 68 = true := by kernel_rfl
theorem Tcall_69 : callable Try.prog 69 = true := by kernel_rfl
theorem Tfo_26_0 : fieldOff Try.prog 26 0 = some 0 := by kernel_rfl
theorem Tfo_26_2 : fieldOff Try.prog 26 2 = some 2 := by kernel_rfl
theorem Tfo_38_0 : fieldOff Try.prog 38 0 = some 0 := by kernel_rfl
theorem Tfo_38_1 : fieldOff Try.prog 38 1 = some 1 := by kernel_rfl
theorem Tint_52 : Try.prog.underlying 52 = some (.int .u64) := by kernel_rfl
theorem Tone_24 : oneOf Try.prog 24 = true := by kernel_rfl
theorem Tone_3 : oneOf Try.prog 3 = true := by kernel_rfl
theorem Tsize_3 : (Try.prog.info? 3).map (·.size) = some 1 := by kernel_rfl
theorem Tsize_38 : (Try.prog.info? 38).map (·.size) = some 2 := by kernel_rfl
theorem Tsl_24 : sliceOf Try.prog 24 = some (3, 1, 8, [.int .i64 0]) := by kernel_rfl
theorem Tsome_3 : (Try.prog.underlying 3).isSome = true := by kernel_rfl
theorem Tzero_38 : zeroOf Try.prog 38 = some [.slice none 0 0, .slice none 0 0] := by kernel_rfl
end FwhT
open FwhT
set_option maxHeartbeats 2000000 in
set_option maxRecDepth 20000 in
theorem l19General_spec {ve vi vo : Value} {n m ni no : Nat} {es is os : List Int} {w : World} (he : Sl w ve 2 m (ints es)) (hi : Sl w vi 1 ni (ints is)) (ho : Sl w vo 1 no (ints os)) (hg : ogB n es m is ni os no = true) : Calls Try.prog 40 #[.agg #[.int .i64 (n : Int), ve, vi, vo]] w (Post No w fun v H => ∃ u1 u2, v = .tuple #[.agg #[u1, u2], .bool (gfO es m n is ni os no).isSome] ∧ H = [.own u1 3 1 (gfA es m n is ni os no).length (ints (gfA es m n is ni os no)), .own u2 3 1 (gfL es m n is ni os no).length (ints (gfL es m n is ni os no))]) := by
 obtain ⟨hn1, hn10, hes, hri, hro⟩ := og_ok hg
 have hp10 := pow10 hn10
 obtain ⟨qn, hqn⟩ : ∃ q : Nat, q = 2 ^ n := ⟨_, rfl⟩
 have hqn1 : 1 ≤ qn := by rw [hqn]; exact Nat.two_pow_pos _
 have hmk := mskK_lt (n := n) (k := ni) (l := is) (ris_in hri)
 refine enter (n := 78) (args := [.agg #[.int .i64 (((n : Nat) : Int)), ve, vi, vo]]) Try.func40 rfl rfl (St.empty _ _) ?_
 refine Run.sr ?_
 refine Run.step rfl (OpStep.box (us := [.int .i64 (((n : Nat) : Int)), ve, vi, vo]) rfl fun b1 => ?_)
 refine Run.step rfl (OpStep.alloc (zs := [.slice none 0 0, .slice none 0 0]) Tzero_38 fun b2 => ?_)
 refine Run.p (.bool false) rfl rfl ?_
 refine Run.done ?_
 refine Run.seq ?_
 refine Run.cut (ι := Nat × Value × Value) [4, 9, 10, 11, 12, 13, 14] (fun ⟨b4, v1, v2⟩ => [(4, .pointer (some ⟨b4, 0, none⟩))]) (fun ⟨b4, v1, v2⟩ => [.blk b4 38 [v1, v2], .own v1 3 1 n (ints (List.replicate n 0)), .own v2 3 1 n (ints (ly0 os no n)), .blk b2 38 [.slice none 0 0, .slice none 0 0], .blk b1 26 [.int .i64 (((n : Nat) : Int)), ve, vi, vo]]) (fun ⟨b4, v1, v2⟩ => True) ?_ ?_
 ·refine Run.held (by kernel_rfl) ?_
  refine DW.take (i := 0) (v := .pointer (some ⟨b1, 0, none⟩)) rfl (by kernel_rfl) (by kernel_rfl) (by kernel_rfl) (fun _ _ _ h => h) (Weak.refl _) rfl (OpY.fieldAddr Tfo_26_0 rfl rfl) ?_
  refine DW.take (i := 1) (v := .int .i64 (((n : Nat) : Int))) rfl (by kernel_rfl) (by kernel_rfl) (by kernel_rfl) (fun _ _ _ h => h) (Weak.refl _) rfl (OpY.load1 Tone_3 rfl (Cells.blk (.tail _ (List.Mem.head _)) ⟨rfl, trivial⟩)) ?_
  refine DW.take (i := 3) (v := .agg #[.int .i64 (((n : Nat) : Int)), ve, vi, vo]) rfl (by kernel_rfl) (by kernel_rfl) (by kernel_rfl) (fun _ _ _ h => h) (Weak.refl _) rfl (OpY.loadN (cs := [.int .i64 (((n : Nat) : Int)), ve, vi, vo]) Tagg_26 rfl (Cells.blk (.tail _ (List.Mem.head _)) ⟨rfl, rfl, rfl, rfl, trivial⟩)) ?_
  refine DW.three (i := 2) (j := 4) (l := 6) (by kernel_rfl) rfl rfl rfl rfl rfl rfl ?_ ?_ ?_
  ·refine OpStep.makeSlice (n := n) Tsl_24 rfl (by decide) (by first | rfl | omega) (by first | rfl | omega) (by omega) (by simp only [maxLen]; omega) fun b3 => ?_
   refine ⟨(Some'.weak (.skip (.take (.take (.nil _))))), ?_⟩
   refine DW.two (i := 4) (j := 6) (by kernel_rfl) rfl rfl rfl rfl ?_ ?_
   ·refine OpStep.call (vs := [.agg #[.int .i64 (((n : Nat) : Int)), ve, vi, vo]]) (caps := []) Tcall_57 rfl rfl (fun w hs => l19Start_spec (ve := ve) (vi := vi) hn1 hn10 (hs.sl ho)) ?_
    rintro uf _ rfl
    refine ⟨(Some'.weak (.skip (.skip (.take (.take (.nil _)))))), ?_⟩
    refine DW.formOwn (.head _) (fun A_uf1 c_uf1 hv hcapc_uf1 hmaxc_uf1 => ?_)
    subst hv
    refine DW.take (i := 5) (v := .agg #[.slice (some ⟨b3, 0, none⟩) n n, .slice A_uf1 n c_uf1]) rfl (by kernel_rfl) (by kernel_rfl) (by kernel_rfl) (fun _ _ _ h => h) (Some'.weak (.skip (.skip (.take (.take (.nil _)))))) rfl (OpY.build (cs := [.slice (some ⟨b3, 0, none⟩) n n, .slice A_uf1 n c_uf1]) (by kernel_rfl)) ?_
    refine DW.step (i := 6) (by kernel_rfl) rfl rfl (OpStep.alloc (zs := [.slice none 0 0, .slice none 0 0]) Tzero_38 fun b4 => ?_)
    refine ⟨(Some'.weak (.skip (.skip (.skip (.take (.take (.nil _))))))), ?_⟩
    refine DW.step (i := 7) (by kernel_rfl) rfl rfl (OpStep.storeAll (us := [.slice (some ⟨b3, 0, none⟩) n n, .slice A_uf1 n c_uf1]) Tsize_38 rfl rfl rfl (.here _) rfl ?_)
    refine ⟨(Some'.weak (.skip (.skip (.skip (.take (.take (.nil _))))))), ?_⟩
    refine DW.done (by kernel_rfl) ?_
    refine Run.goal ⟨(by repeat (first | exact Same.refl _ _ | refine Same.put rfl ?_ | refine Same.over rfl rfl ?_)), (b4, .slice (some ⟨b3, 0, none⟩) n n, .slice A_uf1 n c_uf1), ?_, ?_, ?_⟩
    ·trivial
    ·exact ⟨(by first | rfl | (congr 1; omega) | simp [*]), trivial⟩
    ·exact ((Weak.selF [0, 1, 0, 0, 0]).trans (Some'.weak (.takeEq (by first | rfl | (rw [rep0]) | simp) (.takeEq (by first | rfl | (rw [rep0]) | simp) (.takeEq (by first | rfl | (rw [rep0]) | simp) (.take (.take (.nil _))))))))
   ·refine OpStep.alloc (zs := [.slice none 0 0, .slice none 0 0]) Tzero_38 fun b5 => ?_
    refine ⟨(Some'.weak (.skip (.skip (.take (.take (.nil _)))))), ?_⟩
    refine DW.step (i := 4) (by kernel_rfl) rfl rfl (OpStep.call (vs := [.agg #[.int .i64 (((n : Nat) : Int)), ve, vi, vo]]) (caps := []) Tcall_57 rfl rfl (fun w hs => l19Start_spec (ve := ve) (vi := vi) hn1 hn10 (hs.sl ho)) ?_)
    rintro uf _ rfl
    refine ⟨(Some'.weak (.skip (.skip (.skip (.take (.take (.nil _))))))), ?_⟩
    refine DW.formOwn (.head _) (fun A_uf2 c_uf2 hv hcapc_uf2 hmaxc_uf2 => ?_)
    subst hv
    refine DW.take (i := 5) (v := .agg #[.slice (some ⟨b3, 0, none⟩) n n, .slice A_uf2 n c_uf2]) rfl (by kernel_rfl) (by kernel_rfl) (by kernel_rfl) (fun _ _ _ h => h) (Some'.weak (.skip (.skip (.skip (.take (.take (.nil _))))))) rfl (OpY.build (cs := [.slice (some ⟨b3, 0, none⟩) n n, .slice A_uf2 n c_uf2]) (by kernel_rfl)) ?_
    refine DW.step (i := 7) (by kernel_rfl) rfl rfl (OpStep.storeAll (us := [.slice (some ⟨b3, 0, none⟩) n n, .slice A_uf2 n c_uf2]) Tsize_38 rfl rfl rfl (.there _ (.here _)) rfl ?_)
    refine ⟨(Some'.weak (.skip (.skip (.skip (.take (.take (.nil _))))))), ?_⟩
    refine DW.done (by kernel_rfl) ?_
    refine Run.goal ⟨(by repeat (first | exact Same.refl _ _ | refine Same.put rfl ?_ | refine Same.over rfl rfl ?_)), (b5, .slice (some ⟨b3, 0, none⟩) n n, .slice A_uf2 n c_uf2), ?_, ?_, ?_⟩
    ·trivial
    ·exact ⟨(by first | rfl | (congr 1; omega) | simp [*]), trivial⟩
    ·exact ((Weak.selF [1, 1, 0, 0, 0]).trans (Some'.weak (.takeEq (by first | rfl | (rw [rep0]) | simp) (.takeEq (by first | rfl | (rw [rep0]) | simp) (.takeEq (by first | rfl | (rw [rep0]) | simp) (.take (.take (.nil _))))))))
  ·refine OpStep.call (vs := [.agg #[.int .i64 (((n : Nat) : Int)), ve, vi, vo]]) (caps := []) Tcall_57 rfl rfl (fun w hs => l19Start_spec (ve := ve) (vi := vi) hn1 hn10 (hs.sl ho)) ?_
   rintro uf _ rfl
   refine ⟨(Some'.weak (.skip (.take (.take (.nil _))))), ?_⟩
   refine DW.two (i := 2) (j := 6) (by kernel_rfl) rfl rfl rfl rfl ?_ ?_
   ·refine OpStep.makeSlice (n := n) Tsl_24 rfl (by decide) (by first | rfl | omega) (by first | rfl | omega) (by omega) (by simp only [maxLen]; omega) fun b6 => ?_
    refine ⟨(Some'.weak (.skip (.skip (.take (.take (.nil _)))))), ?_⟩
    refine DW.formOwn (.tail _ (List.Mem.head _)) (fun A_uf3 c_uf3 hv hcapc_uf3 hmaxc_uf3 => ?_)
    subst hv
    refine DW.take (i := 5) (v := .agg #[.slice (some ⟨b6, 0, none⟩) n n, .slice A_uf3 n c_uf3]) rfl (by kernel_rfl) (by kernel_rfl) (by kernel_rfl) (fun _ _ _ h => h) (Some'.weak (.skip (.skip (.take (.take (.nil _)))))) rfl (OpY.build (cs := [.slice (some ⟨b6, 0, none⟩) n n, .slice A_uf3 n c_uf3]) (by kernel_rfl)) ?_
    refine DW.step (i := 6) (by kernel_rfl) rfl rfl (OpStep.alloc (zs := [.slice none 0 0, .slice none 0 0]) Tzero_38 fun b7 => ?_)
    refine ⟨(Some'.weak (.skip (.skip (.skip (.take (.take (.nil _))))))), ?_⟩
    refine DW.step (i := 7) (by kernel_rfl) rfl rfl (OpStep.storeAll (us := [.slice (some ⟨b6, 0, none⟩) n n, .slice A_uf3 n c_uf3]) Tsize_38 rfl rfl rfl (.here _) rfl ?_)
    refine ⟨(Some'.weak (.skip (.skip (.skip (.take (.take (.nil _))))))), ?_⟩
    refine DW.done (by kernel_rfl) ?_
    refine Run.goal ⟨(by repeat (first | exact Same.refl _ _ | refine Same.put rfl ?_ | refine Same.over rfl rfl ?_)), (b7, .slice (some ⟨b6, 0, none⟩) n n, .slice A_uf3 n c_uf3), ?_, ?_, ?_⟩
    ·trivial
    ·exact ⟨(by first | rfl | (congr 1; omega) | simp [*]), trivial⟩
    ·exact ((Weak.refl _).trans (Some'.weak (.takeEq (by first | rfl | (rw [rep0]) | simp) (.takeEq (by first | rfl | (rw [rep0]) | simp) (.takeEq (by first | rfl | (rw [rep0]) | simp) (.take (.take (.nil _))))))))
   ·refine OpStep.alloc (zs := [.slice none 0 0, .slice none 0 0]) Tzero_38 fun b8 => ?_
    refine ⟨(Some'.weak (.skip (.skip (.take (.take (.nil _)))))), ?_⟩
    refine DW.step (i := 2) (by kernel_rfl) rfl rfl (OpStep.makeSlice (n := n) Tsl_24 rfl (by decide) (by first | rfl | omega) (by first | rfl | omega) (by omega) (by simp only [maxLen]; omega) fun b9 => ?_)
    refine ⟨(Some'.weak (.skip (.skip (.skip (.take (.take (.nil _))))))), ?_⟩
    refine DW.formOwn (.tail _ (.tail _ (List.Mem.head _))) (fun A_uf4 c_uf4 hv hcapc_uf4 hmaxc_uf4 => ?_)
    subst hv
    refine DW.take (i := 5) (v := .agg #[.slice (some ⟨b9, 0, none⟩) n n, .slice A_uf4 n c_uf4]) rfl (by kernel_rfl) (by kernel_rfl) (by kernel_rfl) (fun _ _ _ h => h) (Some'.weak (.skip (.skip (.skip (.take (.take (.nil _))))))) rfl (OpY.build (cs := [.slice (some ⟨b9, 0, none⟩) n n, .slice A_uf4 n c_uf4]) (by kernel_rfl)) ?_
    refine DW.step (i := 7) (by kernel_rfl) rfl rfl (OpStep.storeAll (us := [.slice (some ⟨b9, 0, none⟩) n n, .slice A_uf4 n c_uf4]) Tsize_38 rfl rfl rfl (.there _ (.here _)) rfl ?_)
    refine ⟨(Some'.weak (.skip (.skip (.skip (.take (.take (.nil _))))))), ?_⟩
    refine DW.done (by kernel_rfl) ?_
    refine Run.goal ⟨(by repeat (first | exact Same.refl _ _ | refine Same.put rfl ?_ | refine Same.over rfl rfl ?_)), (b8, .slice (some ⟨b9, 0, none⟩) n n, .slice A_uf4 n c_uf4), ?_, ?_, ?_⟩
    ·trivial
    ·exact ⟨(by first | rfl | (congr 1; omega) | simp [*]), trivial⟩
    ·exact ((Weak.selF [1, 0, 0, 0, 0]).trans (Some'.weak (.takeEq (by first | rfl | (rw [rep0]) | simp) (.takeEq (by first | rfl | (rw [rep0]) | simp) (.takeEq (by first | rfl | (rw [rep0]) | simp) (.take (.take (.nil _))))))))
  ·refine OpStep.alloc (zs := [.slice none 0 0, .slice none 0 0]) Tzero_38 fun b10 => ?_
   refine ⟨(Some'.weak (.skip (.take (.take (.nil _))))), ?_⟩
   refine DW.two (i := 2) (j := 4) (by kernel_rfl) rfl rfl rfl rfl ?_ ?_
   ·refine OpStep.makeSlice (n := n) Tsl_24 rfl (by decide) (by first | rfl | omega) (by first | rfl | omega) (by omega) (by simp only [maxLen]; omega) fun b11 => ?_
    refine ⟨(Some'.weak (.skip (.skip (.take (.take (.nil _)))))), ?_⟩
    refine DW.step (i := 4) (by kernel_rfl) rfl rfl (OpStep.call (vs := [.agg #[.int .i64 (((n : Nat) : Int)), ve, vi, vo]]) (caps := []) Tcall_57 rfl rfl (fun w hs => l19Start_spec (ve := ve) (vi := vi) hn1 hn10 (hs.sl ho)) ?_)
    rintro uf _ rfl
    refine ⟨(Some'.weak (.skip (.skip (.skip (.take (.take (.nil _))))))), ?_⟩
    refine DW.formOwn (.head _) (fun A_uf5 c_uf5 hv hcapc_uf5 hmaxc_uf5 => ?_)
    subst hv
    refine DW.take (i := 5) (v := .agg #[.slice (some ⟨b11, 0, none⟩) n n, .slice A_uf5 n c_uf5]) rfl (by kernel_rfl) (by kernel_rfl) (by kernel_rfl) (fun _ _ _ h => h) (Some'.weak (.skip (.skip (.skip (.take (.take (.nil _))))))) rfl (OpY.build (cs := [.slice (some ⟨b11, 0, none⟩) n n, .slice A_uf5 n c_uf5]) (by kernel_rfl)) ?_
    refine DW.step (i := 7) (by kernel_rfl) rfl rfl (OpStep.storeAll (us := [.slice (some ⟨b11, 0, none⟩) n n, .slice A_uf5 n c_uf5]) Tsize_38 rfl rfl rfl (.there _ (.there _ (.here _))) rfl ?_)
    refine ⟨(Some'.weak (.skip (.skip (.skip (.take (.take (.nil _))))))), ?_⟩
    refine DW.done (by kernel_rfl) ?_
    refine Run.goal ⟨(by repeat (first | exact Same.refl _ _ | refine Same.put rfl ?_ | refine Same.over rfl rfl ?_)), (b10, .slice (some ⟨b11, 0, none⟩) n n, .slice A_uf5 n c_uf5), ?_, ?_, ?_⟩
    ·trivial
    ·exact ⟨(by first | rfl | (congr 1; omega) | simp [*]), trivial⟩
    ·exact ((Weak.selF [2, 1, 0, 0, 0]).trans (Some'.weak (.takeEq (by first | rfl | (rw [rep0]) | simp) (.takeEq (by first | rfl | (rw [rep0]) | simp) (.takeEq (by first | rfl | (rw [rep0]) | simp) (.take (.take (.nil _))))))))
   ·refine OpStep.call (vs := [.agg #[.int .i64 (((n : Nat) : Int)), ve, vi, vo]]) (caps := []) Tcall_57 rfl rfl (fun w hs => l19Start_spec (ve := ve) (vi := vi) hn1 hn10 (hs.sl ho)) ?_
    rintro uf _ rfl
    refine ⟨(Some'.weak (.skip (.skip (.take (.take (.nil _)))))), ?_⟩
    refine DW.step (i := 2) (by kernel_rfl) rfl rfl (OpStep.makeSlice (n := n) Tsl_24 rfl (by decide) (by first | rfl | omega) (by first | rfl | omega) (by omega) (by simp only [maxLen]; omega) fun b12 => ?_)
    refine ⟨(Some'.weak (.skip (.skip (.skip (.take (.take (.nil _))))))), ?_⟩
    refine DW.formOwn (.tail _ (List.Mem.head _)) (fun A_uf6 c_uf6 hv hcapc_uf6 hmaxc_uf6 => ?_)
    subst hv
    refine DW.take (i := 5) (v := .agg #[.slice (some ⟨b12, 0, none⟩) n n, .slice A_uf6 n c_uf6]) rfl (by kernel_rfl) (by kernel_rfl) (by kernel_rfl) (fun _ _ _ h => h) (Some'.weak (.skip (.skip (.skip (.take (.take (.nil _))))))) rfl (OpY.build (cs := [.slice (some ⟨b12, 0, none⟩) n n, .slice A_uf6 n c_uf6]) (by kernel_rfl)) ?_
    refine DW.step (i := 7) (by kernel_rfl) rfl rfl (OpStep.storeAll (us := [.slice (some ⟨b12, 0, none⟩) n n, .slice A_uf6 n c_uf6]) Tsize_38 rfl rfl rfl (.there _ (.there _ (.here _))) rfl ?_)
    refine ⟨(Some'.weak (.skip (.skip (.skip (.take (.take (.nil _))))))), ?_⟩
    refine DW.done (by kernel_rfl) ?_
    refine Run.goal ⟨(by repeat (first | exact Same.refl _ _ | refine Same.put rfl ?_ | refine Same.over rfl rfl ?_)), (b10, .slice (some ⟨b12, 0, none⟩) n n, .slice A_uf6 n c_uf6), ?_, ?_, ?_⟩
    ·trivial
    ·exact ⟨(by first | rfl | (congr 1; omega) | simp [*]), trivial⟩
    ·exact ((Weak.selF [2, 0, 0, 0, 0]).trans (Some'.weak (.takeEq (by first | rfl | (rw [rep0]) | simp) (.takeEq (by first | rfl | (rw [rep0]) | simp) (.takeEq (by first | rfl | (rw [rep0]) | simp) (.take (.take (.nil _))))))))
 ·rintro ⟨b4, v1, v2⟩ fr hcut
  show Run _ _ (over _ _ [(4, .pointer (some ⟨b4, 0, none⟩))] fr) [.blk b4 38 [v1, v2], .own v1 3 1 n (ints (List.replicate n 0)), .own v2 3 1 n (ints (ly0 os no n)), .blk b2 38 [.slice none 0 0, .slice none 0 0], .blk b1 26 [.int .i64 (((n : Nat) : Int)), ve, vi, vo]]
  refine Run.sr ?_
  refine Run.p (.int .i64 1) rfl rfl ?_
  refine Run.done ?_
  refine Run.formOwn (.tail _ (List.Mem.head _)) (fun A_v11 c_v11 hv hcapc_v11 hmaxc_v11 => ?_) (fun _ _ _ => ⟨nofun, nofun, nofun⟩)
  subst hv
  refine Run.formOwn (.tail _ (.tail _ (List.Mem.head _))) (fun A_v21 c_v21 hv hcapc_v21 hmaxc_v21 => ?_) (fun _ _ _ => ⟨nofun, nofun, nofun⟩)
  subst hv
  refine Run.block ?_
  refine Run.loop (ι := Nat × Nat × List Int × List Int) ([3, 5, 6, 7, 8, 15, 16, 17, 18, 19, 20, 21, 22, 23, 24, 25, 26, 27, 28, 29, 30, 31, 32, 33, 34, 35, 36, 37, 38, 39, 40, 41, 42, 43, 44, 45, 46, 47, 48, 49, 50, 51, 52, 53, 54, 55, 56, 57, 58, 59] ++ [60, 61, 62, 63, 64, 65, 66, 67, 68, 69, 70, 71, 72, 73, 74, 75, 76, 77]) (fun ⟨f, k, ss, ly⟩ => [(5, .int .i64 (((k : Nat) : Int)))]) (fun ⟨f, k, ss, ly⟩ => [.blk b4 38 [.slice A_v11 n c_v11, .slice A_v21 n c_v21], .blk b2 38 [.slice none 0 0, .slice none 0 0], .blk b1 26 [.int .i64 (((n : Nat) : Int)), ve, vi, vo], .own (.slice A_v11 n c_v11) 3 1 n (ints ss), .own (.slice A_v21 n c_v21) 3 1 n (ints ly)]) (fun ⟨f, k, ss, ly⟩ => GfI es m n is ni os no f k ss ly) (fun ⟨f, k, ss, ly⟩ => f) (n + 1, 1, List.replicate n 0, ly0 os no n) ?_ ?_ ?_ ?_
  ·exact GfI.start hg
  ·exact ⟨rfl, trivial⟩
  ·exact ((Weak.selF [0, 2, 2, 0, 0]).trans (Some'.weak (.take (.take (.take (.takeEq (by first | rfl | simp) (.takeEq (by first | rfl | simp) (.nil _))))))))
  ·rintro ⟨f, k, ss, ly⟩ fr hinv
   show Run _ _ (over _ _ [(5, .int .i64 (((k : Nat) : Int)))] fr) [.blk b4 38 [.slice A_v11 n c_v11, .slice A_v21 n c_v21], .blk b2 38 [.slice none 0 0, .slice none 0 0], .blk b1 26 [.int .i64 (((n : Nat) : Int)), ve, vi, vo], .own (.slice A_v11 n c_v11) 3 1 n (ints ss), .own (.slice A_v21 n c_v21) 3 1 n (ints ly)]
   try dsimp only at hinv
   obtain ⟨f2, rfl⟩ : ∃ f2, f = f2 + 1 := ⟨f - 1, by have := hinv.cnt; omega⟩
   have hnl := hinv.fl.ln
   have hll := hinv.fl.ll
   have hkf := hinv.kf
   have hk1 := hinv.k1
   have hul := unl_lt ly n
   have hloop := hinv
   refine Run.seq ?_
   refine Run.block ?_
   refine Run.sr ?_
   refine Run.y (.pointer (some ⟨b4, 1, none⟩)) rfl (OpY.fieldAddr Tfo_38_1 rfl rfl) ?_
   refine Run.y (.slice A_v21 n c_v21) rfl (OpY.load1 Tone_24 rfl (Cells.blk (.head _) ⟨rfl, trivial⟩)) ?_
   refine Run.q (v := .int .i64 (((unl ly n : Nat) : Int))) rfl (OpQ.call (vs := [.slice A_v21 n c_v21]) (caps := []) Tcall_58 rfl rfl (fun w hs => l19Open_spec (ly := ly) hn10 (hs.slOwn (.tail _ (.tail _ (.tail _ (.tail _ (List.Mem.head _)))))))) ?_
   refine Run.p (.int .i64 (((unl ly n : Nat) : Int))) rfl rfl ?_
   refine Run.done ?_
   refine Run.seq ?_
   refine Run.sr ?_
   refine Run.p (.int .i64 (((unl ly n : Nat) : Int))) rfl rfl ?_
   refine Run.p (.bool ((((unl ly n : Nat) : Int)) == 0)) rfl rfl ?_
   refine Run.done ?_
   refine Run.cond (b := (((unl ly n : Nat) : Int)) == 0) rfl (fun h21 => ?_) (fun h21 => ?_)
   ·have p21 := h21; try simp only [bs] at p21
    have hres := gf_some (hinv.stop (by omega))
    refine Run.sr ?_
    refine Run.y (.agg #[.slice A_v11 n c_v11, .slice A_v21 n c_v21]) rfl (OpY.loadN (cs := [.slice A_v11 n c_v11, .slice A_v21 n c_v21]) Tagg_38 rfl (Cells.blk (.head _) ⟨rfl, rfl, trivial⟩)) ?_
    refine Run.step rfl (OpStep.storeAll (us := [.slice A_v11 n c_v11, .slice A_v21 n c_v21]) Tsize_38 rfl rfl rfl (.there _ (.here _)) rfl ?_)
    refine Run.p (.bool true) rfl rfl ?_
    refine Run.done ?_
    refine Run.ret ?_
    refine ⟨.tuple #[.agg #[.slice A_v11 n c_v11, .slice A_v21 n c_v21], .bool true], [.own (.slice A_v11 n c_v11) 3 1 n (ints ss), .own (.slice A_v21 n c_v21) 3 1 n (ints ly)], Out.cell2 (cs := [.slice A_v11 n c_v11, .slice A_v21 n c_v21]) rfl Tagg_38 rfl (Cells.blk (.tail _ (List.Mem.head _)) ⟨rfl, rfl, trivial⟩) rfl, (Some'.weak (.skip (.skip (.skip (.take (.take (.nil _))))))), ?_⟩
    exact ⟨_, _, by rw [hres.2.2], by rw [hres.1, hres.2.1, hnl, hll]⟩
   ·have p21 := h21; try simp only [bs] at p21
    have h0 : unl ly n ≠ 0 := by omega
    have hlm : unl ly n ||| mskK is ni < 2 ^ n := Nat.or_lt_two_pow hul hmk
    refine Run.skip ?_
    refine Run.seq ?_
    refine Run.sr ?_
    refine Run.p (.int .i64 1) rfl rfl ?_
    refine Run.done ?_
    refine Run.block ?_
    refine Run.loop (ι := Nat × List Int × List Int) ([7, 8, 23, 24, 25, 26, 27, 28, 29, 30, 31, 32, 33, 34, 35, 36, 37, 38, 39, 40, 41, 42, 43, 44, 45, 46, 47, 48, 49, 50, 51, 52, 53, 54, 55, 56, 57, 58, 59, 60, 61, 62, 63, 64, 65, 66, 67, 68, 69, 70] ++ [71]) (fun ⟨s, A, L⟩ => [(7, .int .i64 (((s : Nat) : Int)))]) (fun ⟨s, A, L⟩ => [.blk b4 38 [.slice A_v11 n c_v11, .slice A_v21 n c_v21], .blk b2 38 [.slice none 0 0, .slice none 0 0], .blk b1 26 [.int .i64 (((n : Nat) : Int)), ve, vi, vo], .own (.slice A_v11 n c_v11) 3 1 n (ints A), .own (.slice A_v21 n c_v21) 3 1 n (ints L)]) (fun ⟨s, A, L⟩ => 1 ≤ s ∧ s ≤ qn ∧ UpI (fun s v => svB es m n (allw is ni n (unl ly n)) (unl ly n) v s) n s k ss ly A L) (fun ⟨s, A, L⟩ => qn - s) (1, ss, ly) ?_ ?_ ?_ ?_
    ·exact ⟨Nat.le_refl _, hqn1, (UpI.start hnl hll).miss fun w _ h => by rw [sv_zero] at h; cases h⟩
    ·exact ⟨rfl, trivial⟩
    ·exact ((Weak.refl _).trans (Some'.weak (.take (.take (.take (.takeEq (by first | rfl | simp) (.takeEq (by first | rfl | simp) (.nil _))))))))
    ·rintro ⟨s, A, L⟩ fr hinv
     show Run _ _ (over _ _ [(7, .int .i64 (((s : Nat) : Int)))] fr) [.blk b4 38 [.slice A_v11 n c_v11, .slice A_v21 n c_v21], .blk b2 38 [.slice none 0 0, .slice none 0 0], .blk b1 26 [.int .i64 (((n : Nat) : Int)), ve, vi, vo], .own (.slice A_v11 n c_v11) 3 1 n (ints A), .own (.slice A_v21 n c_v21) 3 1 n (ints L)]
     try dsimp only at hinv
     refine Run.seq ?_
     refine Run.sr ?_
     refine Run.p (.int .i64 (((s : Nat) : Int))) rfl rfl ?_
     refine Run.y (.pointer (some ⟨b1, 0, none⟩)) rfl (OpY.fieldAddr Tfo_26_0 rfl rfl) ?_
     refine Run.y (.int .i64 (((n : Nat) : Int))) rfl (OpY.load1 Tone_3 rfl (Cells.blk (.tail _ (.tail _ (List.Mem.head _))) ⟨rfl, trivial⟩)) ?_
     refine Run.y (.int .u64 (((n : Nat) : Int))) rfl (OpY.convIntEq Tsome_3 Tint_52 rfl (by rw [IntKind.wrap_u64]; omega)) ?_
     refine Run.y (.int .i64 (((qn : Nat) : Int))) rfl (OpY.shlOne rfl rfl rfl (by omega) hqn) ?_
     refine Run.p (.bool (decide ((((s : Nat) : Int)) < (((qn : Nat) : Int))))) rfl rfl ?_
     refine Run.done ?_
     refine Run.cond (b := decide ((((s : Nat) : Int)) < (((qn : Nat) : Int)))) rfl (fun h28 => ?_) (fun h28 => ?_)
     ·have p28 := h28; try simp only [bs] at p28
      obtain ⟨hs1, hsl, hup⟩ := hinv
      have hsq : s < qn := by omega
      have hAl := hup.la
      have hLl := hup.ll
      have hol := oddM_lt es m n s n
      have holl : oddM es m n s n &&& unl ly n < 2 ^ n := Nat.lt_of_le_of_lt Nat.and_le_left hol
      have hsx : s &&& (unl ly n ||| mskK is ni) < 2 ^ n := Nat.lt_of_le_of_lt Nat.and_le_left (by omega)
      refine Run.skip ?_
      refine Run.seq ?_
      refine Run.block ?_
      refine Run.seq ?_
      refine Run.sr ?_
      refine Run.p (.int .i64 (((s : Nat) : Int))) rfl rfl ?_
      refine Run.p (.int .i64 (((unl ly n : Nat) : Int))) rfl rfl ?_
      refine Run.y (.pointer (some ⟨b1, 2, none⟩)) rfl (OpY.fieldAddr Tfo_26_2 rfl rfl) ?_
      refine Run.y (vi) rfl (OpY.load1 Tone_24 rfl (Cells.blk (.tail _ (.tail _ (List.Mem.head _))) ⟨rfl, trivial⟩)) ?_
      refine Run.q (v := .int .i64 (((mskK is ni : Nat) : Int))) rfl (OpQ.call (vs := [vi]) (caps := []) Tcall_68 rfl rfl (fun w hs => l19Mask_spec hn10 (ris_in hri) (hs.sl hi))) ?_
      refine Run.y (.int .i64 (((unl ly n ||| mskK is ni : Nat) : Int))) rfl (OpY.orNat rfl rfl rfl rfl (by omega) (by omega)) ?_
      refine Run.y (.int .i64 (((s &&& (unl ly n ||| mskK is ni) : Nat) : Int))) rfl (OpY.andNat2 rfl rfl (by omega) (by omega)) ?_
      refine Run.p (.bool ((((s &&& (unl ly n ||| mskK is ni) : Nat) : Int)) != 0)) rfl rfl ?_
      refine Run.done ?_
      refine Run.cond (b := (((s &&& (unl ly n ||| mskK is ni) : Nat) : Int)) != 0) rfl (fun h38 => ?_) (fun h38 => ?_)
      ·have p38 := h38; try simp only [bs] at p38
       have hmiss : ∀ w, w < n → svB es m n (allw is ni n (unl ly n)) (unl ly n) w s = true → 0 ≤ ix L w ∧ ix ly w < 0 := fun w hw h => by
        simp only [svB, Bool.and_eq_true, decide_eq_true_eq] at h
        exact absurd ((al_iff (by omega)).2 h.1.2) (by omega)
       refine Run.exit rfl ?_
       refine Run.region ?_
       refine Run.p (.int .i64 (((s : Nat) : Int))) rfl rfl ?_
       refine Run.y (.int .i64 (((s + 1 : Nat) : Int))) rfl (OpY.add rfl rfl (by omega) (by omega) (by omega)) ?_
       refine Run.p (.int .i64 (((s + 1 : Nat) : Int))) rfl rfl ?_
       refine Run.done ?_
       refine Run.goal ⟨(by repeat (first | exact Same.refl _ _ | refine Same.put rfl ?_ | refine Same.over rfl rfl ?_)), (s + 1, A, L), ?_, ?_, ?_, ?_⟩
       ·first | exact ⟨by omega, by omega, hhit⟩ | exact ⟨by omega, by omega, hup.miss hmiss⟩
       ·show qn - (s + 1) < qn - s; omega
       ·exact ⟨(by first | rfl | (congr 1; omega) | simp), trivial⟩
       ·exact ((Weak.refl _).trans (Some'.weak (.take (.take (.take (.takeEq (by first | rfl | simp) (.takeEq (by first | rfl | simp) (.nil _))))))))
      ·have p38 := h38; try simp only [bs] at p38
       have hal : s &&& allw is ni n (unl ly n) = s := (al_iff (by omega)).1 (by omega)
       refine Run.skip ?_
       refine Run.sr ?_
       refine Run.y (.agg #[.int .i64 (((n : Nat) : Int)), ve, vi, vo]) rfl (OpY.loadN (cs := [.int .i64 (((n : Nat) : Int)), ve, vi, vo]) Tagg_26 rfl (Cells.blk (.tail _ (.tail _ (List.Mem.head _))) ⟨rfl, rfl, rfl, rfl, trivial⟩)) ?_
       refine Run.p (.int .i64 (((s : Nat) : Int))) rfl rfl ?_
       refine Run.q (v := .int .i64 (((oddM es m n s n : Nat) : Int))) rfl (OpQ.call (vs := [.agg #[.int .i64 (((n : Nat) : Int)), ve, vi, vo], .int .i64 (((s : Nat) : Int))]) (caps := []) Tcall_69 rfl rfl (fun w hs => l19Odd_spec (set := s) hn10 (by omega) hes (hs.sl he))) ?_
       refine Run.p (.int .i64 (((unl ly n : Nat) : Int))) rfl rfl ?_
       refine Run.y (.int .i64 (((oddM es m n s n &&& unl ly n : Nat) : Int))) rfl (OpY.andNat2 rfl rfl (by omega) (by omega)) ?_
       refine Run.step rfl (OpStep.call (vs := [.int .i64 (((oddM es m n s n &&& unl ly n : Nat) : Int))]) (caps := []) Tcall_60 rfl rfl (fun w hs => (by have h := l1Set_spec (x := ((oddM es m n s n &&& unl ly n : Nat) : Int)) (w := w) (by omega) (by omega); rw [setL_nat holl (by omega)] at h; exact h)) ?_)
       rintro us _ ⟨hs24, rfl⟩
       show Run _ _ (putF _ _ _ us) [.own us 3 1 ((setN (oddM es m n s n &&& unl ly n) n).length) (ints (setN (oddM es m n s n &&& unl ly n) n)), .blk b4 38 [.slice A_v11 n c_v11, .slice A_v21 n c_v21], .blk b2 38 [.slice none 0 0, .slice none 0 0], .blk b1 26 [.int .i64 (((n : Nat) : Int)), ve, vi, vo], .own (.slice A_v11 n c_v11) 3 1 n (ints A), .own (.slice A_v21 n c_v21) 3 1 n (ints L)]
       refine Run.p (us) rfl rfl ?_
       refine Run.done ?_
       refine Run.seq ?_
       refine Run.formOwn (.head _) (fun A_us1 c_us1 hv hcapc_us1 hmaxc_us1 => ?_) (fun _ _ _ => ⟨nofun, nofun, nofun⟩)
       subst hv
       refine Run.held (by kernel_rfl) ?_
       refine DW.take (i := 0) (v := .slice A_us1 ((setN (oddM es m n s n &&& unl ly n) n).length) c_us1) rfl (by kernel_rfl) (by kernel_rfl) (by kernel_rfl) (fun _ _ _ h => h) (Weak.refl _) rfl (OpY.pure rfl) ?_
       refine DW.take (i := 1) (v := .int .i64 ((((setN (oddM es m n s n &&& unl ly n) n).length : Nat) : Int))) rfl (by kernel_rfl) (by kernel_rfl) (by kernel_rfl) (fun _ _ _ h => h) (Weak.refl _) rfl (OpY.len Tsl_24 rfl) ?_
       refine DW.take (i := 2) (v := .bool (((((setN (oddM es m n s n &&& unl ly n) n).length : Nat) : Int)) == 1)) rfl (by kernel_rfl) (by kernel_rfl) (by kernel_rfl) (fun _ _ _ h => h) (Weak.refl _) rfl (OpY.pure rfl) ?_
       rcases Bool.eq_false_or_eq_true (((((setN (oddM es m n s n &&& unl ly n) n).length : Nat) : Int)) == 1) with h48 | h48
       ·refine DW.take (i := 3) (v := .bool true) rfl (by kernel_rfl) (by kernel_rfl) (by kernel_rfl) (fun _ _ _ h => h) (Weak.refl _) rfl (OpY.moveB rfl h48) ?_
        have p48 := h48; try simp only [bs] at p48
        have hln1 : (setN (oddM es m n s n &&& unl ly n) n).length = 1 := by omega
        obtain ⟨v0, hv0, ha2, hse⟩ := one_bit holl hln1
        have hx0 : ix (setN (oddM es m n s n &&& unl ly n) n) 0 = (v0 : Int) := by rw [hse]; rfl
        have hlo : ∀ w, oddM es m n s n &&& unl ly n = 2 ^ w → w = v0 := fun w h => (Nat.pow_right_inj (by omega)).1 (h.symm.trans ha2)
        have hsv : svB es m n (allw is ni n (unl ly n)) (unl ly n) v0 s = true := by unfold svB; rw [decide_eq_true (show 0 < s by omega), decide_eq_true hal, decide_eq_true ha2]; rfl
        refine DW.openOwn (.head _) (by omega) (fun gn cgn hvgn hcapgn _ => ?_)
        injection hvgn with hAgn _ hcgn; subst hAgn; subst hcgn
        refine DW.openOwn (.tail _ (.tail _ (.tail _ (.tail _ (.tail _ (List.Mem.head _)))))) (by omega) (fun g2 cg2 hvg2 hcapg2 _ => ?_)
        injection hvg2 with hAg2 _ hcg2; subst hAg2; subst hcg2
        refine DW.take (i := 4) (v := .pointer (some ⟨b4, 1, none⟩)) rfl (by kernel_rfl) (by kernel_rfl) (by kernel_rfl) (fun _ _ _ h => h) (Weak.refl _) rfl (OpY.fieldAddr Tfo_38_1 rfl rfl) ?_
        refine DW.take (i := 5) (v := .slice (some ⟨g2, 0, none⟩) n c_v21) rfl (by kernel_rfl) (by kernel_rfl) (by kernel_rfl) (fun _ _ _ h => h) (Weak.refl _) rfl (OpY.load1 Tone_24 rfl (Cells.blk (.tail _ (List.Mem.head _)) ⟨rfl, trivial⟩)) ?_
        refine DW.take (i := 6) (v := .slice (some ⟨gn, 0, none⟩) ((setN (oddM es m n s n &&& unl ly n) n).length) c_us1) rfl (by kernel_rfl) (by kernel_rfl) (by kernel_rfl) (fun _ _ _ h => h) (Weak.refl _) rfl (OpY.pure rfl) ?_
        refine DW.take (i := 7) (v := .pointer (some ⟨gn, 0, none⟩)) rfl (by kernel_rfl) (by kernel_rfl) (by kernel_rfl) (fun _ _ _ h => h) (Weak.refl _) rfl (OpY.index (kk := 0) Tsl_24 rfl rfl (by omega) (by omega) (by first | rfl | omega)) ?_
        refine DW.take (i := 8) (v := .int .i64 (ix (setN (oddM es m n s n &&& unl ly n) n) (0))) rfl (by kernel_rfl) (by kernel_rfl) (by kernel_rfl) (fun _ _ _ h => h) (Weak.refl _) rfl (OpY.load1 Tone_3 rfl (Cells.own0 (.head _) (pre1 (by first | omega | (simp only [ints_length, List.length_set]; omega))))) ?_
        refine DW.take (i := 9) (v := .pointer (some ⟨g2, v0, none⟩)) rfl (by kernel_rfl) (by kernel_rfl) (by kernel_rfl) (fun _ _ _ h => h) (Weak.refl _) rfl (OpY.index (kk := v0) Tsl_24 rfl rfl (by omega) (by omega) (by first | rfl | omega)) ?_
        refine DW.take (i := 10) (v := .int .i64 (ix L (v0))) rfl (by kernel_rfl) (by kernel_rfl) (by kernel_rfl) (fun _ _ _ h => h) (Weak.refl _) rfl (OpY.load1 Tone_3 rfl (Cells.own0 (.tail _ (.tail _ (.tail _ (.tail _ (.tail _ (List.Mem.head _)))))) (pre1 (by first | omega | (simp only [ints_length, List.length_set]; omega))))) ?_
        refine DW.take (i := 11) (v := .bool (decide ((ix L (v0)) < 0))) rfl (by kernel_rfl) (by kernel_rfl) (by kernel_rfl) (fun _ _ _ h => h) (Weak.refl _) rfl (OpY.pure rfl) ?_
        refine DW.take (i := 12) (v := .bool (decide ((ix L (v0)) < 0))) rfl (by kernel_rfl) (by kernel_rfl) (by kernel_rfl) (fun _ _ _ h => h) (Weak.refl _) rfl (OpY.pure rfl) ?_
        refine DW.done (by kernel_rfl) ?_
        refine Run.cond (b := decide ((ix L (v0)) < 0)) rfl (fun h57 => ?_) (fun h57 => ?_)
        ·have p57 := h57; try simp only [bs] at p57
         have hhit := hup.hit hv0 (by omega) hsv fun w hw hne => by
          cases h : svB es m n (allw is ni n (unl ly n)) (unl ly n) w s with
          | false => rfl
          | true => simp only [svB, Bool.and_eq_true, decide_eq_true_eq] at h; exact absurd (hlo w h.2) hne
         refine Run.seq ?_
         refine Run.openOwn (.tail _ (.tail _ (.tail _ (.tail _ (List.Mem.head _))))) (by omega) (fun g1 cg1 hvg1 hcapg1 _ => ?_) (fun _ _ _ => ⟨nofun, nofun, nofun⟩)
         injection hvg1 with hAg1 _ hcg1; subst hAg1; subst hcg1
         refine Run.lastly [7] (by kernel_rfl) ?_
         refine DL.takeP (i := 0) (v := .pointer (some ⟨b4, 0, none⟩)) rfl (by kernel_rfl) (by kernel_rfl) (by kernel_rfl) (fun _ _ _ h => h) rfl (fun _ => OpY.fieldAddr Tfo_38_0 rfl rfl) ?_
         refine DL.take (i := 1) (v := .slice (some ⟨g1, 0, none⟩) n c_v11) rfl (by kernel_rfl) (by kernel_rfl) (by kernel_rfl) (by kernel_rfl) (fun _ _ _ h => h) (Some'.weak (.take (.take (.take (.take (.take (.take (.nil _)))))))) rfl (OpY.load1 Tone_24 rfl (Cells.blk (.tail _ (List.Mem.head _)) ⟨rfl, trivial⟩)) ?_
         refine DL.takeP (i := 2) (v := .slice (some ⟨gn, 0, none⟩) ((setN (oddM es m n s n &&& unl ly n) n).length) c_us1) rfl (by kernel_rfl) (by kernel_rfl) (by kernel_rfl) (fun _ _ _ h => h) rfl (fun _ => OpY.pure rfl) ?_
         refine DL.takeP (i := 3) (v := .pointer (some ⟨gn, 0, none⟩)) rfl (by kernel_rfl) (by kernel_rfl) (by kernel_rfl) (fun _ _ _ h => h) rfl (fun _ => OpY.index (kk := 0) Tsl_24 rfl rfl (by omega) (by omega) (by first | rfl | omega)) ?_
         refine DL.take (i := 4) (v := .int .i64 (ix (setN (oddM es m n s n &&& unl ly n) n) (0))) rfl (by kernel_rfl) (by kernel_rfl) (by kernel_rfl) (by kernel_rfl) (fun _ _ _ h => h) (Some'.weak (.take (.take (.take (.take (.take (.take (.nil _)))))))) rfl (OpY.load1 Tone_3 rfl (Cells.own0 (.head _) (pre1 (by first | omega | (simp only [ints_length, List.length_set]; omega))))) ?_
         refine DL.takeP (i := 5) (v := .int .i64 (((s : Nat) : Int))) rfl (by kernel_rfl) (by kernel_rfl) (by kernel_rfl) (fun _ _ _ h => h) rfl (fun _ => OpY.pure rfl) ?_
         refine DL.takeP (i := 6) (v := .pointer (some ⟨g1, v0, none⟩)) rfl (by kernel_rfl) (by kernel_rfl) (by kernel_rfl) (fun _ _ _ h => h) rfl (fun _ => OpY.index (kk := v0) Tsl_24 rfl rfl (by omega) (by omega) (by first | rfl | omega)) ?_
         refine DL.step (i := 7) (by kernel_rfl) (by kernel_rfl) rfl rfl (OpStep.storeOwnInt (o := v0) (a := ((s : Nat) : Int)) Tsize_3 rfl rfl (.there _ (.there _ (.there _ (.there _ (.here _))))) (by first | omega | (simp only [ints_length, List.length_set]; omega)) ?_)
         refine DL.done (by kernel_rfl) ?_
         refine Run.lastly [7] (by kernel_rfl) ?_
         refine DL.takeP (i := 0) (v := .pointer (some ⟨b4, 1, none⟩)) rfl (by kernel_rfl) (by kernel_rfl) (by kernel_rfl) (fun _ _ _ h => h) rfl (fun _ => OpY.fieldAddr Tfo_38_1 rfl rfl) ?_
         refine DL.take (i := 1) (v := .slice (some ⟨g2, 0, none⟩) n c_v21) rfl (by kernel_rfl) (by kernel_rfl) (by kernel_rfl) (by kernel_rfl) (fun _ _ _ h => h) (Some'.weak (.take (.take (.take (.take (.take (.take (.nil _)))))))) rfl (OpY.load1 Tone_24 rfl (Cells.blk (.tail _ (List.Mem.head _)) ⟨rfl, trivial⟩)) ?_
         refine DL.takeP (i := 2) (v := .slice (some ⟨gn, 0, none⟩) ((setN (oddM es m n s n &&& unl ly n) n).length) c_us1) rfl (by kernel_rfl) (by kernel_rfl) (by kernel_rfl) (fun _ _ _ h => h) rfl (fun _ => OpY.pure rfl) ?_
         refine DL.takeP (i := 3) (v := .pointer (some ⟨gn, 0, none⟩)) rfl (by kernel_rfl) (by kernel_rfl) (by kernel_rfl) (fun _ _ _ h => h) rfl (fun _ => OpY.index (kk := 0) Tsl_24 rfl rfl (by omega) (by omega) (by first | rfl | omega)) ?_
         refine DL.take (i := 4) (v := .int .i64 (ix (setN (oddM es m n s n &&& unl ly n) n) (0))) rfl (by kernel_rfl) (by kernel_rfl) (by kernel_rfl) (by kernel_rfl) (fun _ _ _ h => h) (Some'.weak (.take (.take (.take (.take (.take (.take (.nil _)))))))) rfl (OpY.load1 Tone_3 rfl (Cells.own0 (.head _) (pre1 (by first | omega | (simp only [ints_length, List.length_set]; omega))))) ?_
         refine DL.takeP (i := 5) (v := .int .i64 (((k : Nat) : Int))) rfl (by kernel_rfl) (by kernel_rfl) (by kernel_rfl) (fun _ _ _ h => h) rfl (fun _ => OpY.pure rfl) ?_
         refine DL.takeP (i := 6) (v := .pointer (some ⟨g2, v0, none⟩)) rfl (by kernel_rfl) (by kernel_rfl) (by kernel_rfl) (fun _ _ _ h => h) rfl (fun _ => OpY.index (kk := v0) Tsl_24 rfl rfl (by omega) (by omega) (by first | rfl | omega)) ?_
         refine DL.step (i := 7) (by kernel_rfl) (by kernel_rfl) rfl rfl (OpStep.storeOwnInt (o := v0) (a := ((k : Nat) : Int)) Tsize_3 rfl rfl (.there _ (.there _ (.there _ (.there _ (.there _ (.here _)))))) (by first | omega | (simp only [ints_length, List.length_set]; omega)) ?_)
         refine DL.done (by kernel_rfl) ?_
         refine Run.blockEnd ?_
         refine Run.region ?_
         refine Run.p (.int .i64 (((s : Nat) : Int))) rfl rfl ?_
         refine Run.y (.int .i64 (((s + 1 : Nat) : Int))) rfl (OpY.add rfl rfl (by omega) (by omega) (by omega)) ?_
         refine Run.p (.int .i64 (((s + 1 : Nat) : Int))) rfl rfl ?_
         refine Run.done ?_
         refine Run.goal ⟨(by repeat (first | exact Same.refl _ _ | refine Same.put rfl ?_ | refine Same.over rfl rfl ?_)), (s + 1, (A.set v0 (((s : Nat) : Int))), (L.set v0 (((k : Nat) : Int)))), ?_, ?_, ?_, ?_⟩
         ·first | exact ⟨by omega, by omega, hhit⟩ | exact ⟨by omega, by omega, hup.miss hmiss⟩
         ·show qn - (s + 1) < qn - s; omega
         ·exact ⟨(by first | rfl | (congr 1; omega) | simp), trivial⟩
         ·exact ((Weak.selF [1, 1, 1, 1, 1]).trans (Some'.weak (.takeEq (by first | rfl | simp) (.take (.take (.takeEq (by first | rfl | simp) (.takeEq (by first | rfl | simp) (.nil _))))))))
        ·have p57 := h57; try simp only [bs] at p57
         have hmiss : ∀ w, w < n → svB es m n (allw is ni n (unl ly n)) (unl ly n) w s = true → 0 ≤ ix L w ∧ ix ly w < 0 := fun w hw h => by
          simp only [svB, Bool.and_eq_true, decide_eq_true_eq] at h
          have e := hlo w h.2
          subst e
          have hbit : (unl ly n).testBit w = true := by
           have h4 := congrArg (fun x => x.testBit w) ha2
           simp only [Nat.testBit_and, Nat.testBit_two_pow, decide_true, Bool.and_eq_true] at h4; exact h4.2
          rw [unl_neg hw] at hbit
          exact ⟨by omega, of_decide_eq_true hbit⟩
         refine Run.skip ?_
         refine Run.blockEnd ?_
         refine Run.region ?_
         refine Run.p (.int .i64 (((s : Nat) : Int))) rfl rfl ?_
         refine Run.y (.int .i64 (((s + 1 : Nat) : Int))) rfl (OpY.add rfl rfl (by omega) (by omega) (by omega)) ?_
         refine Run.p (.int .i64 (((s + 1 : Nat) : Int))) rfl rfl ?_
         refine Run.done ?_
         refine Run.goal ⟨(by repeat (first | exact Same.refl _ _ | refine Same.put rfl ?_ | refine Same.over rfl rfl ?_)), (s + 1, A, L), ?_, ?_, ?_, ?_⟩
         ·first | exact ⟨by omega, by omega, hhit⟩ | exact ⟨by omega, by omega, hup.miss hmiss⟩
         ·show qn - (s + 1) < qn - s; omega
         ·exact ⟨(by first | rfl | (congr 1; omega) | simp), trivial⟩
         ·exact ((Weak.selF [1, 1, 1, 1, 1]).trans (Some'.weak (.takeEq (by first | rfl | simp) (.take (.take (.takeEq (by first | rfl | simp) (.takeEq (by first | rfl | simp) (.nil _))))))))
       ·refine DW.take (i := 3) (v := .bool false) rfl (by kernel_rfl) (by kernel_rfl) (by kernel_rfl) (fun _ _ _ h => h) (Weak.refl _) rfl (OpY.moveB rfl h48) ?_
        have p48 := h48; try simp only [bs] at p48
        have hmiss : ∀ w, w < n → svB es m n (allw is ni n (unl ly n)) (unl ly n) w s = true → 0 ≤ ix L w ∧ ix ly w < 0 := fun w hw h => by
         simp only [svB, Bool.and_eq_true, decide_eq_true_eq] at h
         have h2 := h.2
         have h3 := set_pow (n := n) hw
         rw [← h2] at h3
         rw [h3] at p48; exact absurd rfl p48
        refine DW.pass (i := 4) rfl (by kernel_rfl) (by kernel_rfl) (by kernel_rfl) (fun _ _ _ h => h) (Weak.refl _) rfl ?_
        refine DW.pass (i := 5) rfl (by kernel_rfl) (by kernel_rfl) (by kernel_rfl) (fun _ _ _ h => h) (Weak.refl _) rfl ?_
        refine DW.pass (i := 6) rfl (by kernel_rfl) (by kernel_rfl) (by kernel_rfl) (fun _ _ _ h => h) (Weak.refl _) rfl ?_
        refine DW.pass (i := 7) rfl (by kernel_rfl) (by kernel_rfl) (by kernel_rfl) (fun _ _ _ h => h) (Weak.refl _) rfl ?_
        refine DW.pass (i := 8) rfl (by kernel_rfl) (by kernel_rfl) (by kernel_rfl) (fun _ _ _ h => h) (Weak.refl _) rfl ?_
        refine DW.pass (i := 9) rfl (by kernel_rfl) (by kernel_rfl) (by kernel_rfl) (fun _ _ _ h => h) (Weak.refl _) rfl ?_
        refine DW.pass (i := 10) rfl (by kernel_rfl) (by kernel_rfl) (by kernel_rfl) (fun _ _ _ h => h) (Weak.refl _) rfl ?_
        refine DW.pass (i := 11) rfl (by kernel_rfl) (by kernel_rfl) (by kernel_rfl) (fun _ _ _ h => h) (Weak.refl _) rfl ?_
        refine DW.take (i := 12) (v := .bool false) rfl (by kernel_rfl) (by kernel_rfl) (by kernel_rfl) (fun _ _ _ h => h) (Weak.refl _) rfl (OpY.pure rfl) ?_
        refine DW.done (by kernel_rfl) ?_
        refine Run.cond (b := false) rfl (fun h => nomatch h) (fun _ => ?_)
        refine Run.skip ?_
        refine Run.blockEnd ?_
        refine Run.region ?_
        refine Run.p (.int .i64 (((s : Nat) : Int))) rfl rfl ?_
        refine Run.y (.int .i64 (((s + 1 : Nat) : Int))) rfl (OpY.add rfl rfl (by omega) (by omega) (by omega)) ?_
        refine Run.p (.int .i64 (((s + 1 : Nat) : Int))) rfl rfl ?_
        refine Run.done ?_
        refine Run.goal ⟨(by repeat (first | exact Same.refl _ _ | refine Same.put rfl ?_ | refine Same.over rfl rfl ?_)), (s + 1, A, L), ?_, ?_, ?_, ?_⟩
        ·first | exact ⟨by omega, by omega, hhit⟩ | exact ⟨by omega, by omega, hup.miss hmiss⟩
        ·show qn - (s + 1) < qn - s; omega
        ·exact ⟨(by first | rfl | (congr 1; omega) | simp), trivial⟩
        ·exact ((Weak.selF [1, 1, 1, 1, 1]).trans (Some'.weak (.take (.take (.take (.takeEq (by first | rfl | simp) (.takeEq (by first | rfl | simp) (.nil _))))))))
     ·have p28 := h28; try simp only [bs] at p28
      obtain ⟨hs1, hsl, hup⟩ := hinv
      rw [show s = 2 ^ n by omega] at hup
      obtain ⟨hfA, hfL⟩ := gf_fin hup.la hup.ll hup
      refine Run.exit rfl ?_
      refine Run.sr ?_
      refine Run.y (.pointer (some ⟨b4, 1, none⟩)) rfl (OpY.fieldAddr Tfo_38_1 rfl rfl) ?_
      refine Run.y (.slice A_v21 n c_v21) rfl (OpY.load1 Tone_24 rfl (Cells.blk (.head _) ⟨rfl, trivial⟩)) ?_
      refine Run.q (v := .int .i64 (((unl L n : Nat) : Int))) rfl (OpQ.call (vs := [.slice A_v21 n c_v21]) (caps := []) Tcall_58 rfl rfl (fun w hs => l19Open_spec (ly := L) hn10 (hs.slOwn (.tail _ (.tail _ (.tail _ (.tail _ (List.Mem.head _)))))))) ?_
      refine Run.p (.int .i64 (((unl ly n : Nat) : Int))) rfl rfl ?_
      refine Run.p (.bool ((((unl L n : Nat) : Int)) == (((unl ly n : Nat) : Int)))) rfl rfl ?_
      refine Run.done ?_
      refine Run.cond (b := (((unl L n : Nat) : Int)) == (((unl ly n : Nat) : Int))) rfl (fun h76 => ?_) (fun h76 => ?_)
      ·have p76 := h76; try simp only [bs] at p76
       have hres := gf_none (hloop.none h0 (by rw [← hfL]; omega))
       refine Run.sr ?_
       refine Run.y (.agg #[.slice none 0 0, .slice none 0 0]) rfl (OpY.build (cs := [.slice none 0 0, .slice none 0 0]) (by kernel_rfl)) ?_
       refine Run.step rfl (OpStep.storeAll (us := [.slice none 0 0, .slice none 0 0]) Tsize_38 rfl rfl rfl (.there _ (.here _)) rfl ?_)
       refine Run.p (.bool false) rfl rfl ?_
       refine Run.done ?_
       refine Run.ret ?_
       refine ⟨.tuple #[.agg #[.slice none 0 0, .slice none 0 0], .bool false], [.own (.slice none 0 0) 3 1 0 ([]), .own (.slice none 0 0) 3 1 0 ([])], Out.cell2 (cs := [.slice none 0 0, .slice none 0 0]) rfl Tagg_38 rfl (Cells.blk (.tail _ (List.Mem.head _)) ⟨rfl, rfl, trivial⟩) rfl, ((Weak.nilOwn 3 1).trans ((Weak.nilOwn 3 1).trans (Some'.weak (.take (.take (.nil _)))))), ?_⟩
       exact ⟨_, _, by rw [hres.2.2], by rw [hres.1, hres.2.1]; rfl⟩
      ·have p76 := h76; try simp only [bs] at p76
       have hnext := hloop.next (ris_pos hri) h0 (by rw [← hfL]; omega)
       rw [← hfA, ← hfL] at hnext
       refine Run.skip ?_
       refine Run.blockEnd ?_
       refine Run.region ?_
       refine Run.p (.int .i64 (((k : Nat) : Int))) rfl rfl ?_
       refine Run.y (.int .i64 (((k + 1 : Nat) : Int))) rfl (OpY.add rfl rfl (by omega) (by omega) (by omega)) ?_
       refine Run.p (.int .i64 (((k + 1 : Nat) : Int))) rfl rfl ?_
       refine Run.done ?_
       refine Run.goal ⟨(by repeat (first | exact Same.refl _ _ | refine Same.put rfl ?_ | refine Same.over rfl rfl ?_)), (f2, k + 1, A, L), ?_, ?_, ?_, ?_⟩
       ·exact hnext
       ·show f2 < f2 + 1; omega
       ·exact ⟨(by show Value.int _ _ = Value.int _ _; congr 1), trivial⟩
       ·exact ((Weak.refl _).trans (Some'.weak (.take (.take (.take (.takeEq (by first | rfl | simp) (.takeEq (by first | rfl | simp) (.nil _))))))))

set_option maxHeartbeats 1000000 in
set_option maxRecDepth 20000 in
theorem sGFlowOf_spec {ve vi vo : Value} {n m ni no : Nat} {es is os : List Int} {w : World} (hn11 : n ≤ 11) (he : Sl w ve 2 m (ints es)) (hi : Sl w vi 1 ni (ints is)) (ho : Sl w vo 1 no (ints os)) (hsm : ∀ x ∈ es, 0 ≤ x ∧ x ≤ 100) : Calls Try.prog 17 #[.agg #[.int .i64 (n : Int), ve, vi, vo]] w (Post No w fun v H => ∃ u1 u2, v = .tuple #[.agg #[u1, u2], .bool (gfO es m n is ni os no).isSome] ∧ H = [.own u1 3 1 (gfA es m n is ni os no).length (ints (gfA es m n is ni os no)), .own u2 3 1 (gfL es m n is ni os no).length (ints (gfL es m n is ni os no))]) := by
 refine enter (n := 12) (args := [.agg #[.int .i64 (((n : Nat) : Int)), ve, vi, vo]]) Try.func17 rfl rfl (St.empty _ _) ?_
 refine Run.sr ?_
 refine Run.step rfl (OpStep.box (us := [.int .i64 (((n : Nat) : Int)), ve, vi, vo]) rfl fun b1 => ?_)
 refine Run.step rfl (OpStep.alloc (zs := [.slice none 0 0, .slice none 0 0]) Tzero_38 fun b2 => ?_)
 refine Run.p (.bool false) rfl rfl ?_
 refine Run.done ?_
 refine Run.seq ?_
 refine Run.sr ?_
 refine Run.y (.agg #[.int .i64 (((n : Nat) : Int)), ve, vi, vo]) rfl (OpY.loadN (cs := [.int .i64 (((n : Nat) : Int)), ve, vi, vo]) Tagg_26 rfl (Cells.blk (.tail _ (List.Mem.head _)) ⟨rfl, rfl, rfl, rfl, trivial⟩)) ?_
 refine Run.q (v := .bool (ogB n es m is ni os no)) rfl (OpQ.call (vs := [.agg #[.int .i64 (((n : Nat) : Int)), ve, vi, vo]]) (caps := []) Tcall_32 rfl rfl (fun w hs => l19Good_spec hn11 (hs.sl he) (hs.sl hi) (hs.sl ho) hsm)) ?_
 refine Run.p (.bool (!(ogB n es m is ni os no))) rfl rfl ?_
 refine Run.done ?_
 refine Run.cond (b := !(ogB n es m is ni os no)) rfl (fun h6 => ?_) (fun h6 => ?_)
 ·have p6 := h6; try simp only [bs] at p6
  have hg : ogB n es m is ni os no = false := by simpa using p6
  have hres := gf_none (gf_bad hg)
  refine Run.sr ?_
  refine Run.y (.agg #[.slice none 0 0, .slice none 0 0]) rfl (OpY.build (cs := [.slice none 0 0, .slice none 0 0]) (by kernel_rfl)) ?_
  refine Run.step rfl (OpStep.storeAll (us := [.slice none 0 0, .slice none 0 0]) Tsize_38 rfl rfl rfl (.here _) rfl ?_)
  refine Run.p (.bool false) rfl rfl ?_
  refine Run.done ?_
  refine Run.ret ?_
  refine ⟨.tuple #[.agg #[.slice none 0 0, .slice none 0 0], .bool false], [.own (.slice none 0 0) 3 1 0 ([]), .own (.slice none 0 0) 3 1 0 ([])], Out.cell2 (cs := [.slice none 0 0, .slice none 0 0]) rfl Tagg_38 rfl (Cells.blk (.head _) ⟨rfl, rfl, trivial⟩) rfl, ((Weak.nilOwn 3 1).trans ((Weak.nilOwn 3 1).trans (Some'.weak (.take (.take (.nil _)))))), ?_⟩
  exact ⟨_, _, by rw [hres.2.2], by rw [hres.1, hres.2.1]; rfl⟩
 ·have p6 := h6; try simp only [bs] at p6
  have hg : ogB n es m is ni os no = true := by simpa using p6
  refine Run.skip ?_
  refine Run.sr ?_
  refine Run.y (.agg #[.int .i64 (((n : Nat) : Int)), ve, vi, vo]) rfl (OpY.loadN (cs := [.int .i64 (((n : Nat) : Int)), ve, vi, vo]) Tagg_26 rfl (Cells.blk (.tail _ (List.Mem.head _)) ⟨rfl, rfl, rfl, rfl, trivial⟩)) ?_
  refine Run.step rfl (OpStep.call (vs := [.agg #[.int .i64 (((n : Nat) : Int)), ve, vi, vo]]) (caps := []) Tcall_40 rfl rfl (fun w hs => l19General_spec (hs.sl he) (hs.sl hi) (hs.sl ho) hg) ?_)
  rintro _ _ ⟨u1, u2, rfl, rfl⟩
  show Run _ _ (putF _ _ _ (.tuple #[.agg #[u1, u2], .bool ((gfO es m n is ni os no).isSome)])) [.own u1 3 1 ((gfA es m n is ni os no).length) (ints (gfA es m n is ni os no)), .own u2 3 1 ((gfL es m n is ni os no).length) (ints (gfL es m n is ni os no)), .blk b2 38 [.slice none 0 0, .slice none 0 0], .blk b1 26 [.int .i64 (((n : Nat) : Int)), ve, vi, vo]]
  refine Run.p (.agg #[u1, u2]) rfl rfl ?_
  refine Run.p (.bool ((gfO es m n is ni os no).isSome)) rfl rfl ?_
  refine Run.formOwn (.head _) (fun A_u11 c_u11 hv hcapc_u11 hmaxc_u11 => ?_) (fun _ _ _ => ⟨nofun, nofun, nofun⟩)
  subst hv
  refine Run.formOwn (.tail _ (List.Mem.head _)) (fun A_u21 c_u21 hv hcapc_u21 hmaxc_u21 => ?_) (fun _ _ _ => ⟨nofun, nofun, nofun⟩)
  subst hv
  refine Run.step rfl (OpStep.storeAll (us := [.slice A_u11 ((gfA es m n is ni os no).length) c_u11, .slice A_u21 ((gfL es m n is ni os no).length) c_u21]) Tsize_38 rfl rfl rfl (.there _ (.there _ (.here _))) rfl ?_)
  refine Run.p (.bool ((gfO es m n is ni os no).isSome)) rfl rfl ?_
  refine Run.done ?_
  refine Run.ret ?_
  refine ⟨.tuple #[.agg #[.slice A_u11 ((gfA es m n is ni os no).length) c_u11, .slice A_u21 ((gfL es m n is ni os no).length) c_u21], .bool ((gfO es m n is ni os no).isSome)], [.own (.slice A_u11 ((gfA es m n is ni os no).length) c_u11) 3 1 ((gfA es m n is ni os no).length) (ints (gfA es m n is ni os no)), .own (.slice A_u21 ((gfL es m n is ni os no).length) c_u21) 3 1 ((gfL es m n is ni os no).length) (ints (gfL es m n is ni os no))], Out.cell2 (cs := [.slice A_u11 ((gfA es m n is ni os no).length) c_u11, .slice A_u21 ((gfL es m n is ni os no).length) c_u21]) rfl Tagg_38 rfl (Cells.blk (.tail _ (.tail _ (List.Mem.head _))) ⟨rfl, rfl, trivial⟩) rfl, (Some'.weak (.take (.take (.nil _)))), ?_⟩
  exact ⟨_, _, rfl, rfl⟩

end Go.Proofs.Ytoiaibgcjfgbcaa
/- Groups of slices of int; the laws' own functions on [][]int. -/
set_option linter.unusedSimpArgs false
set_option linter.unusedVariables false
namespace Go.Proofs.Ytoiaibgcjfgbcaa
open Go Go.RowKit
/-- A group of slices of int, with their numbers. -/
def gl (ps : List (Value × List Int)) : List (Value × Nat × List Value) := ps.map fun p => (p.1, p.2.length, ints p.2)
/-- The outer slice's cells. -/
def oc (ps : List (Value × List Int)) : List Value := ps.map (·.1)
@[simp] theorem oc_length (ps : List (Value × List Int)) : (oc ps).length = ps.length := by simp [oc]
theorem Weak.grpTake {H : List Res} {e : TypeId} {size : Nat} {p : Value × List Int} {A B : List (Value × List Int)} : Weak (.grp e size (gl (A ++ p :: B)) :: H) (.own p.1 e size p.2.length (ints p.2) :: .grp e size (gl (A ++ B)) :: H) :=
  (Weak.grpPerm (l' := gl (p :: (A ++ B))) (List.perm_middle.map _)).trans Weak.grpOut
theorem St.slGrp {M : Nat → Prop} {w0 w : World} {H : List Res} {e : TypeId} {size : Nat} {ps : List (Value × List Int)} (hs : St M w0 w H) (hm : Res.grp e size (gl ps) ∈ H) {p : Value × List Int} (hp : p ∈ ps) : Sl w p.1 size p.2.length (ints p.2) := by
  obtain ⟨A, B, rfl⟩ := List.append_of_mem hp
  obtain ⟨H1, H2, rfl⟩ := List.append_of_mem hm
  have h1 := hs.perm (List.perm_middle (a := Res.grp e size (gl (A ++ p :: B))) (l₁ := H1) (l₂ := H2))
  exact (Weak.grpTake _ _ _ h1).slOwn (.head _)

end Go.Proofs.Ytoiaibgcjfgbcaa
/- Walks: the laws' own functions on slices of slices of int. -/
set_option linter.unusedSimpArgs false
set_option linter.unusedVariables false
namespace Go.Proofs.Ytoiaibgcjfgbcaa
open Go Go.RowKit
def vx (ps : List (Value × List Int)) (i : Nat) : Value := (ps.map (·.1)).getD i undef
def lx (ps : List (Value × List Int)) (i : Nat) : List Int := (ps.map (·.2)).getD i []
/-- Each member can be read. -/
def GrpSl (w : World) (ps : List (Value × List Int)) : Prop := ∀ i, i < ps.length → Sl w (vx ps i) 1 (lx ps i).length (ints (lx ps i))
theorem px_eq {ps : List (Value × List Int)} {i : Nat} (h : i < ps.length) : (vx ps i, lx ps i) ∈ ps := by
  have : (vx ps i, lx ps i) = ps[i] := by simp [vx, lx, List.getD, h]
  rw [this]; exact List.getElem_mem h
theorem St.grpSl {M : Nat → Prop} {w0 w : World} {H : List Res} {e : TypeId} {ps : List (Value × List Int)} (hs : St M w0 w H) (hm : Res.grp e 1 (gl ps) ∈ H) : GrpSl w ps :=
  fun _ hi => hs.slGrp hm (px_eq hi)
theorem GrpSl.go {w0 w : World} {H : List Res} {ps : List (Value × List Int)} (h : GrpSl w0 ps) (hs : St No w0 w H) : GrpSl w ps := fun i hi => hs.sl (h i hi)
/-- The lists written over with k, k + 1, .. -/
def mkps : Int → List (Value × List Int) → List (Value × List Int)
  | _, [] => []
  | k, p :: ps => (p.1, mks k p.2.length) :: mkps (k + (p.2.length : Nat)) ps
@[simp] theorem mkps_length : ∀ (ps : List (Value × List Int)) (k : Int), (mkps k ps).length = ps.length
  | [], _ => rfl
  | p :: ps, k => by simp [mkps, mkps_length ps]
end Go.Proofs.Ytoiaibgcjfgbcaa
/- The members of a group are read where they lie. -/
set_option linter.unusedSimpArgs false
set_option linter.unusedVariables false
namespace Go.Proofs.Ytoiaibgcjfgbcaa
open Go Go.RowKit
theorem Cells.grp {E : Env} {H : List Res} {e : TypeId} {ps : List (Value × List Int)} (hm : Res.grp e 1 (gl ps) ∈ H) {i g m c o : Nat} (hi : i < ps.length) (h0 : 0 < (lx ps i).length) (hv : vx ps i = .slice (some ⟨g, 0, none⟩) m c) {ys : List Value} (hp : Pre (ints (lx ps i)) o ys) : Cells E H g o ys := by
  have h1 : Cells E H g 0 (ints (lx ps i)) := by
    intro w hs
    obtain ⟨_, A, c', he, _, _, h3⟩ := hs.grpSl hm i hi
    obtain ⟨b', o', rfl, _, hr⟩ := h3 h0
    rw [hv] at he
    simp only [Value.slice.injEq, Option.some.injEq, Addr.mk.injEq] at he
    obtain ⟨⟨rfl, rfl, _⟩, _⟩ := he
    exact hr
  have := Cells.sub h1 hp
  rwa [Nat.zero_add] at this

end Go.Proofs.Ytoiaibgcjfgbcaa
/- Walks: chains and sets of a flow. -/
set_option linter.unusedSimpArgs false
set_option linter.unusedVariables false
namespace Go.Proofs.Ytoiaibgcjfgbcaa
open Go Go.RowKit
namespace FwiT
theorem Tagg_26 : aggOf Try.prog 26 = some 4 := by kernel_rfl
theorem Tagg_38 : aggOf Try.prog 38 = some 2 := by kernel_rfl
theorem Tcall_24 : callable Try.prog 24 = true := by kernel_rfl
theorem Tcall_30 : callable Try.prog 30 = true := by kernel_rfl
theorem Tfo_26_0 : fieldOff Try.prog 26 0 = some 0 := by kernel_rfl
theorem Tfo_38_0 : fieldOff Try.prog 38 0 = some 0 := by kernel_rfl
theorem Tone_24 : oneOf Try.prog 24 = true := by kernel_rfl
theorem Tone_3 : oneOf Try.prog 3 = true := by kernel_rfl
theorem Tsize_3 : (Try.prog.info? 3).map (·.size) = some 1 := by kernel_rfl
theorem Tsize_38 : (Try.prog.info? 38).map (·.size) = some 2 := by kernel_rfl
theorem Tsl_24 : sliceOf Try.prog 24 = some (3, 1, 8, [.int .i64 0]) := by kernel_rfl
theorem Tzero_38 : zeroOf Try.prog 38 = some [.slice none 0 0, .slice none 0 0] := by kernel_rfl
end FwiT
open FwiT
/-- The sets of a flow. -/
def setsL (nx : List Int) (n : Nat) : List Int := mapN (fun v => if 0 ≤ ix nx v then ((2 ^ (ix nx v).toNat : Nat) : Int) else 0) n
def setsK (nx : List Int) (k n : Nat) : List Int := mapN (fun v => if v < k ∧ 0 ≤ ix nx v then ((2 ^ (ix nx v).toNat : Nat) : Int) else 0) n
@[simp] theorem setsK_length (nx : List Int) (k n : Nat) : (setsK nx k n).length = n := by simp [setsK]
@[simp] theorem setsL_length (nx : List Int) (n : Nat) : (setsL nx n).length = n := by simp [setsL]
end Go.Proofs.Ytoiaibgcjfgbcaa
/- Walks: permutations as swaps. -/
set_option linter.unusedSimpArgs false
set_option linter.unusedVariables false
namespace Go.Proofs.Ytoiaibgcjfgbcaa
open Go Go.RowKit
def swp (zs : List Int) (a b : Nat) : List Int := (zs.set a (ix zs b)).set b (ix zs a)
@[simp] theorem swp_length (zs : List Int) (a b : Nat) : (swp zs a b).length = zs.length := by simp [swp]
theorem ix_swp {zs : List Int} {a b j : Nat} (ha : a < zs.length) (hb : b < zs.length) (hj : j < zs.length) : ix (swp zs a b) j = if b = j then ix zs a else if a = j then ix zs b else ix zs j := by
  rw [swp, ix_set (by simpa using hj)]
  split
  · rfl
  · rw [ix_set hj]
theorem ix_getElem {zs : List Int} {a : Nat} (ha : a < zs.length) : ix zs a = zs[a] := by simp [ix, List.getD, ha]
theorem swp_perm {zs : List Int} {a b : Nat} (ha : a < zs.length) (hb : b < zs.length) : (swp zs a b).Perm zs := by
  unfold swp
  rw [ix_getElem ha, ix_getElem hb]
  exact List.set_set_perm ha hb
/-- The first i numbers are sorted. -/
def srt (zs : List Int) (i : Nat) : Prop := ∀ p q, p < q → q < i → ix zs p ≤ ix zs q
/-- The first i + 1 numbers are sorted, but for number j, which is not greater than those behind it. -/
structure Ins (zs : List Int) (i j : Nat) : Prop where
  rest : ∀ p q, p < q → q ≤ i → p ≠ j → q ≠ j → ix zs p ≤ ix zs q
  low : ∀ q, j < q → q ≤ i → ix zs j ≤ ix zs q
theorem Ins.start {zs : List Int} {i : Nat} (h : srt zs i) : Ins zs i i :=
  ⟨fun p q h1 h2 h3 h4 => h p q h1 (by omega), fun q h1 h2 => by omega⟩
theorem Ins.swap {zs : List Int} {i j : Nat} (h : Ins zs i j) (hj : 0 < j) (hji : j ≤ i) (hi : i < zs.length) (hlt : ix zs j < ix zs (j - 1)) : Ins (swp zs j (j - 1)) i (j - 1) := by
  have hx : ∀ q, q ≤ i → ix (swp zs j (j - 1)) q = if j - 1 = q then ix zs j else if j = q then ix zs (j - 1) else ix zs q := fun q hq => ix_swp (by omega) (by omega) (by omega)
  refine ⟨fun p q h1 h2 h3 h4 => ?_, fun q h1 h2 => ?_⟩
  · rw [hx p (by omega), hx q h2, if_neg (show ¬ (j - 1 = p) by omega), if_neg (show ¬ (j - 1 = q) by omega)]
    by_cases e1 : j = p
    · rw [if_pos e1, if_neg (show ¬ (j = q) by omega)]
      exact h.rest (j - 1) q (by omega) h2 (by omega) (by omega)
    · rw [if_neg e1]
      by_cases e2 : j = q
      · rw [if_pos e2]; exact h.rest p (j - 1) (by omega) (by omega) (by omega) (by omega)
      · rw [if_neg e2]; exact h.rest p q h1 h2 (by omega) (by omega)
  · rw [hx (j - 1) (by omega), hx q h2, if_pos rfl, if_neg (show ¬ (j - 1 = q) by omega)]
    by_cases e : j = q
    · rw [if_pos e]; omega
    · rw [if_neg e]; exact h.low q (by omega) h2
theorem Ins.done {zs : List Int} {i j : Nat} (h : Ins zs i j) (hji : j ≤ i) (hd : j = 0 ∨ ix zs (j - 1) ≤ ix zs j) : srt zs (i + 1) := by
  intro p q h1 h2
  by_cases e1 : p = j
  · subst e1; exact h.low q h1 (by omega)
  · by_cases e2 : q = j
    · subst e2
      rcases hd with hd | hd
      · omega
      · by_cases e3 : p = q - 1
        · subst e3; exact hd
        · have := h.rest p (q - 1) (by omega) (by omega) (by omega) (by omega); omega
    · exact h.rest p q h1 (by omega) e1 e2
theorem perm_len {xs ys : List Int} (h : xs.Perm ys) : xs.length = ys.length := h.length_eq
/-- All numbers are different, and below the length. -/
def isPm (xs : List Int) (n : Nat) : Bool := !anyI (fun i => hasI xs (ix xs i) i) n && !anyI (fun i => !within (ix xs i) 0 ((n : Int) - 1)) n
theorem hasI_iffP {xs : List Int} {x : Int} {k : Nat} : hasI xs x k = true ↔ ∃ i, i < k ∧ ix xs i = x := by
  unfold hasI; rw [anyI_iff]; simp
theorem isPm_iff {xs : List Int} {n : Nat} : isPm xs n = true ↔ (∀ i j, i < j → j < n → ix xs i ≠ ix xs j) ∧ ∀ i, i < n → 0 ≤ ix xs i ∧ ix xs i < n := by
  unfold isPm
  rw [Bool.and_eq_true, Bool.not_eq_true', Bool.not_eq_true', allI_any]
  constructor
  · rintro ⟨h1, h2⟩
    refine ⟨fun i j hij hj e => ?_, fun i hi => by have := within_iff.1 (h2 i hi); omega⟩
    have : anyI (fun i => hasI xs (ix xs i) i) n = true := anyI_true hj (hasI_iffP.2 ⟨i, hij, e⟩)
    rw [h1] at this; cases this
  · rintro ⟨h1, h2⟩
    refine ⟨anyI_false fun j hj => ?_, fun i hi => within_iff.2 (by have := h2 i hi; omega)⟩
    cases hb : hasI xs (ix xs j) j with
    | false => rfl
    | true => obtain ⟨i, hi, e⟩ := hasI_iffP.1 hb; exact absurd e (h1 i j hi hj)
theorem mem_ix {xs : List Int} {x : Int} : x ∈ xs ↔ ∃ i, i < xs.length ∧ ix xs i = x := by
  rw [List.mem_iff_getElem]
  constructor
  · rintro ⟨i, h, e⟩; exact ⟨i, h, by rw [ix_getElem h]; exact e⟩
  · rintro ⟨i, h, e⟩; exact ⟨i, h, by rw [← ix_getElem h]; exact e⟩
/-- Swaps as gates. -/
def flSW : List (Nat × Nat) → List Int
  | [] => []
  | (a, b) :: l => 11 :: (a : Int) :: (b : Int) :: flSW l
@[simp] theorem flSW_length : ∀ l : List (Nat × Nat), (flSW l).length = l.length * 3
  | [] => rfl
  | (_, _) :: l => by simp only [flSW, List.length_cons, flSW_length l]; omega
/-- The place of to[q]. -/
def plc (xs : List Int) (q : Nat) (now : List Int) : Nat := (findI (fun i => decide (ix now i = ix xs q)) now.length).toNat
theorem mks_ix {n i : Nat} (h : i < n) : ix (mks 0 n) i = i := by rw [ix_mks h]; omega
theorem perm_has {n : Nat} {now : List Int} (hp : now.Perm (mks 0 n)) {x : Int} (h0 : 0 ≤ x) (h1 : x < n) : ∃ i, i < now.length ∧ ix now i = x := by
  have : x ∈ mks 0 n := mem_ix.2 ⟨x.toNat, by simp; omega, by rw [mks_ix (by omega)]; omega⟩
  exact mem_ix.1 (hp.mem_iff.2 this)
theorem plc_spec {xs now : List Int} {q r : Nat} (hr : r < now.length) (he : ix now r = ix xs q) : plc xs q now < now.length ∧ ix now (plc xs q now) = ix xs q ∧ ∀ i, i < plc xs q now → ix now i ≠ ix xs q := by
  obtain ⟨k, hk, hmin⟩ : ∃ k, (k < now.length ∧ ix now k = ix xs q) ∧ ∀ i, i < k → ix now i ≠ ix xs q := by
    obtain ⟨k, h1, h2⟩ := least_ex (p := fun k => k < now.length ∧ ix now k = ix xs q) ⟨r, hr, he⟩
    exact ⟨k, h1, fun i hi e => by have := h2 i ⟨by omega, e⟩; omega⟩
  have : plc xs q now = k := by
    rw [plc, findI_hit (k := k) (fun i hi => decide_eq_false (hmin i hi)) (decide_eq_true hk.2) hk.1, Int.toNat_natCast]
  rw [this]; exact ⟨hk.1, hk.2, hmin⟩
structure PmOk (n : Nat) (xs : List Int) (q : Nat) (s : List Int × List (Nat × Nat)) : Prop where
  perm : s.1.Perm (mks 0 n)
  done : ∀ p, p < q → ix s.1 p = ix xs p
  few : s.2.length ≤ q
theorem PmOk.len {n : Nat} {xs : List Int} {q : Nat} {s : List Int × List (Nat × Nat)} (h : PmOk n xs q s) : s.1.length = n := by rw [perm_len h.perm]; simp
theorem PmOk.place {n : Nat} {xs : List Int} {q : Nat} {s : List Int × List (Nat × Nat)} (hx : isPm xs n = true) (hq : q < n) (h : PmOk n xs q s) : q ≤ plc xs q s.1 ∧ plc xs q s.1 < n ∧ ix s.1 (plc xs q s.1) = ix xs q ∧ ∀ i, i < plc xs q s.1 → ix s.1 i ≠ ix xs q := by
  have hi := isPm_iff.1 hx
  obtain ⟨r, hr, he⟩ := perm_has h.perm (hi.2 q hq).1 (hi.2 q hq).2
  obtain ⟨h1, h2, h3⟩ := plc_spec hr he
  refine ⟨?_, by rw [h.len] at h1; exact h1, h2, h3⟩
  refine Decidable.byContradiction fun hlt => ?_
  have := h.done (plc xs q s.1) (by omega)
  exact hi.1 (plc xs q s.1) q (by omega) hq (by rw [← this]; exact h2)
end Go.Proofs.Ytoiaibgcjfgbcaa
/- Walks: the nodes in the order in which they are measured. -/
set_option linter.unusedSimpArgs false
set_option linter.unusedVariables false
namespace Go.Proofs.Ytoiaibgcjfgbcaa
open Go Go.RowKit
namespace FwpT
theorem Tcall_47 : callable Try.prog 47 = true := by kernel_rfl
theorem Tcall_72 : callable Try.prog 72 = true := by kernel_rfl
theorem Tcall_81 : callable Try.prog 81 = true := by kernel_rfl
theorem Tone_3 : oneOf Try.prog 3 = true := by kernel_rfl
theorem Tsize_3 : (Try.prog.info? 3).map (·.size) = some 1 := by kernel_rfl
theorem Tsl_24 : sliceOf Try.prog 24 = some (3, 1, 8, [.int .i64 0]) := by kernel_rfl
end FwpT
open FwpT
/-- The function that compares by the layers, as long as the block g alone turns. -/
def CmpM (g N : Nat) (ly : List Int) (cp : Value) (w : World) : Prop := ∀ w' : World, St (fun k => k = g) w w' [] → ∀ x y : Int, 0 ≤ x → x < N → 0 ≤ y → y < N → Calls Try.prog 47 #[.int .i64 x, .int .i64 y, cp] w' (Post No w' fun v _ => v = .int .i64 (ix ly y.toNat - ix ly x.toNat))
theorem St.link {M : Nat → Prop} {w0 w w' : World} (h : St M w0 w []) (h' : St M w w' []) : St M w0 w' [] :=
  ⟨h'.os.trans h.os, h'.tape.trans h.tape, h'.output.trans h.output, Nat.le_trans h.size h'.size, fun k hk hm => (h'.keep k (Nat.lt_of_lt_of_le hk h.size) hm).trans (h.keep k hk hm), (fun _ h => nomatch h), (fun _ h => nomatch h), List.Pairwise.nil⟩
theorem St.toB {g n c : Nat} {e : TypeId} {xs : List Value} {w0 w : World} {H : List Res} (h : St (Of [.own (.slice (some ⟨g, 0, none⟩) n c) e 1 n xs]) w0 w H) : St (fun k => k = g) w0 w [] := by
  refine (h.sub (List.nil_sublist H)).mono fun k _ hk => ?_
  obtain ⟨r, hr, hrk⟩ := hk
  simp only [List.mem_singleton] at hr; subst hr
  simp only [Res.has, Value.ownBlock, Option.some.injEq] at hrk
  exact hrk.symm
theorem CmpM.next {g N : Nat} {ly : List Int} {cp : Value} {w w' : World} (h : CmpM g N ly cp w) (hs : St (fun k => k = g) w w' []) : CmpM g N ly cp w' := fun w'' hs' => h w'' (hs.link hs')
def lk (ly : List Int) (x : Int) : Int := - ix ly x.toNat
theorem map_swp (f : Int → Int) (zs : List Int) {p q : Nat} (hp : p < zs.length) (hq : q < zs.length) : (swp zs p q).map f = swp (zs.map f) p q := by
  refine list_ext_ix (by simp) fun i hi => ?_
  have hi2 : i < zs.length := by simpa using hi
  have h1 : ∀ (ys : List Int) (j : Nat), j < ys.length → ix (ys.map f) j = f (ix ys j) := fun ys j hj => by simp [ix, List.getD, hj]
  rw [h1 _ _ (by simpa using hi2), ix_swp hp hq hi2, ix_swp (by simpa using hp) (by simpa using hq) (by simpa using hi2), h1 _ _ hp, h1 _ _ hq, h1 _ _ hi2]
  split
  · rfl
  · split <;> rfl
theorem ix_lk (ly zs : List Int) {j : Nat} (hj : j < zs.length) : ix (zs.map (lk ly)) j = - ix ly (ix zs j).toNat := by simp [ix, List.getD, hj, lk]

set_option maxHeartbeats 1000000 in
set_option maxRecDepth 20000 in
theorem insM_spec {g n c N : Nat} {ly xs : List Int} {cp : Value} {w : World} (hn : n ≤ 12) (hxl : xs.length = n) (hc : CmpM g N ly cp w) (hr : ∀ x ∈ xs, 0 ≤ x ∧ x < N) (hlr : ∀ i, -1000 ≤ ix ly i ∧ ix ly i ≤ 1000) (h : (Res.own (.slice (some ⟨g, 0, none⟩) n c) 3 1 n (ints xs)).holds w) : Calls Try.prog 81 #[.slice (some ⟨g, 0, none⟩) n c, .int .i64 0, .int .i64 (n : Int), .func (.func 47) #[] #[cp]] w (Post (Of [.own (.slice (some ⟨g, 0, none⟩) n c) 3 1 n (ints xs)]) w fun v H => ∃ ys, (ys.Perm xs ∧ srt (ys.map (lk ly)) n) ∧ v = .tuple #[] ∧ H = [.own (.slice (some ⟨g, 0, none⟩) n c) 3 1 n (ints ys)]) := by
 refine enter (n := 53) (args := [.slice (some ⟨g, 0, none⟩) n c, .int .i64 0, .int .i64 (((n : Nat) : Int)), .func (.func 47) #[] #[cp]]) Try.func81 rfl rfl (St.start1 h) ?_
 refine Run.sr ?_
 refine Run.p (.int .i64 0) rfl rfl ?_
 refine Run.y (.int .i64 1) rfl (OpY.add rfl rfl (by omega) (by omega) (by omega)) ?_
 refine Run.p (.int .i64 1) rfl rfl ?_
 refine Run.done ?_
 refine Run.block ?_
 refine Run.loop (ι := Nat × List Int) [8, 9, 12, 13, 14, 15, 16, 17, 18, 19, 20, 21, 22, 23, 24, 25, 26, 27, 28, 29, 30, 31, 32, 33, 34, 35, 36, 37, 38, 39, 40, 41, 42, 43, 44, 45, 46, 47, 48, 49, 50, 51, 52] (fun ⟨i, ys⟩ => [(8, .int .i64 (((i : Nat) : Int)))]) (fun ⟨i, ys⟩ => [.own (.slice (some ⟨g, 0, none⟩) n c) 3 1 n (ints ys)]) (fun ⟨i, ys⟩ => 1 ≤ i ∧ ys.Perm xs ∧ srt (ys.map (lk ly)) i) (fun ⟨i, ys⟩ => n + 1 - i) (1, xs) ?_ ?_ ?_ ?_
 ·exact ⟨Nat.le_refl _, List.Perm.refl _, fun p q h1 h2 => by omega⟩
 ·exact ⟨(by show Value.int _ _ = Value.int _ _; congr 1), trivial⟩
 ·exact (Some'.weak (.takeEq (by first | rfl | simp) (.nil _)))
 ·rintro ⟨i, ys⟩ fr hinv
  show Run _ _ (over _ _ [(8, .int .i64 (((i : Nat) : Int)))] fr) [.own (.slice (some ⟨g, 0, none⟩) n c) 3 1 n (ints ys)]
  try dsimp only at hinv
  refine Run.seq ?_
  refine Run.sr ?_
  refine Run.p (.int .i64 (((i : Nat) : Int))) rfl rfl ?_
  refine Run.p (.int .i64 (((n : Nat) : Int))) rfl rfl ?_
  refine Run.p (.bool (decide ((((i : Nat) : Int)) < (((n : Nat) : Int))))) rfl rfl ?_
  refine Run.done ?_
  refine Run.cond (b := decide ((((i : Nat) : Int)) < (((n : Nat) : Int)))) rfl (fun h14 => ?_) (fun h14 => ?_)
  ·have p14 := h14; try simp only [bs] at p14
   have hin : i < n := by omega
   have hyl := hinv.2.1.length_eq
   refine Run.skip ?_
   refine Run.seq ?_
   refine Run.block ?_
   refine Run.sr ?_
   refine Run.p (.int .i64 (((i : Nat) : Int))) rfl rfl ?_
   refine Run.p (.int .i64 (((i : Nat) : Int))) rfl rfl ?_
   refine Run.done ?_
   refine Run.block ?_
   refine Run.loop (ι := Nat × List Int) [9, 18, 19, 20, 21, 22, 23, 24, 25, 26, 27, 28, 29, 30, 31, 32, 33, 34, 35, 36, 37, 38, 39, 40, 41, 42, 43, 44, 45, 46, 47, 48, 49, 50, 51, 52] (fun ⟨j, zs⟩ => [(9, .int .i64 (((j : Nat) : Int)))]) (fun ⟨j, zs⟩ => [.own (.slice (some ⟨g, 0, none⟩) n c) 3 1 n (ints zs)]) (fun ⟨j, zs⟩ => j ≤ i ∧ zs.Perm xs ∧ Ins (zs.map (lk ly)) i j) (fun ⟨j, zs⟩ => j) (i, ys) ?_ ?_ ?_ ?_
   ·exact ⟨Nat.le_refl _, hinv.2.1, Ins.start hinv.2.2⟩
   ·exact ⟨rfl, trivial⟩
   ·exact (Some'.weak (.takeEq (by first | rfl | simp) (.nil _)))
   ·rintro ⟨j, zs⟩ fr hinv
    show Run _ _ (over _ _ [(9, .int .i64 (((j : Nat) : Int)))] fr) [.own (.slice (some ⟨g, 0, none⟩) n c) 3 1 n (ints zs)]
    try dsimp only at hinv
    refine Run.seq ?_
    refine Run.seq ?_
    refine Run.draws (by kernel_rfl) (by kernel_rfl) ?_
    refine Lex.q (v := .int .i64 (((j : Nat) : Int))) rfl (OpQ.y (OpY.pure rfl)) ?_
    refine Lex.q (v := .int .i64 0) rfl (OpQ.y (OpY.pure rfl)) ?_
    refine Lex.q (v := .bool (decide ((((j : Nat) : Int)) > 0))) rfl (OpQ.y (OpY.pure rfl)) ?_
    rcases Bool.eq_false_or_eq_true (decide ((((j : Nat) : Int)) > 0)) with h21 | h21
    ·refine Lex.q (v := .bool true) rfl (OpQ.y (OpY.moveB rfl h21)) ?_
     have p21 := h21; try simp only [bs] at p21
     have hj0 : 0 < j := by omega
     have hzl := hinv.2.1.length_eq
     have hm1 := hr _ (hinv.2.1.mem_iff.1 (ix_mem (xs := zs) (i := j) (by omega)))
     have hm2 := hr _ (hinv.2.1.mem_iff.1 (ix_mem (xs := zs) (i := j - 1) (by omega)))
     have hl1 := hlr (ix zs j).toNat
     have hl2 := hlr (ix zs (j - 1)).toNat
     have hk1 := ix_lk ly zs (j := j) (by omega)
     have hk2 := ix_lk ly zs (j := j - 1) (by omega)
     refine Lex.q (v := .func (.func 47) #[] #[cp]) rfl (OpQ.y (OpY.pure rfl)) ?_
     refine Lex.q (v := .slice (some ⟨g, 0, none⟩) n c) rfl (OpQ.y (OpY.pure rfl)) ?_
     refine Lex.q (v := .int .i64 (((j : Nat) : Int))) rfl (OpQ.y (OpY.pure rfl)) ?_
     refine Lex.q (v := .pointer (some ⟨g, j, none⟩)) rfl (OpQ.y (OpY.index (kk := j) Tsl_24 rfl rfl (by omega) (by omega) (by first | rfl | omega))) ?_
     refine Lex.q (v := .int .i64 (ix zs (j))) rfl (OpQ.y (OpY.load1 Tone_3 rfl (Cells.own0 (.head _) (pre1 (by first | omega | (simp; omega)))))) ?_
     refine Lex.q (v := .slice (some ⟨g, 0, none⟩) n c) rfl (OpQ.y (OpY.pure rfl)) ?_
     refine Lex.q (v := .int .i64 (((j : Nat) : Int))) rfl (OpQ.y (OpY.pure rfl)) ?_
     refine Lex.q (v := .int .i64 (((j - 1 : Nat) : Int))) rfl (OpQ.y (OpY.sub rfl rfl (by omega) (by omega) (by omega))) ?_
     refine Lex.q (v := .pointer (some ⟨g, j - 1, none⟩)) rfl (OpQ.y (OpY.index (kk := j - 1) Tsl_24 rfl rfl (by omega) (by omega) (by first | rfl | omega))) ?_
     refine Lex.q (v := .int .i64 (ix zs (j - 1))) rfl (OpQ.y (OpY.load1 Tone_3 rfl (Cells.own0 (.head _) (pre1 (by first | omega | (simp; omega)))))) ?_
     refine Lex.q (v := .int .i64 (ix ly (ix zs (j - 1)).toNat - ix ly (ix zs j).toNat)) rfl (OpQ.call (vs := [.int .i64 (ix zs (j)), .int .i64 (ix zs (j - 1)), cp]) (caps := [cp]) Tcall_47 rfl rfl (fun w hs => (hc _ hs.toB _ _ hm1.1 hm1.2 hm2.1 hm2.2))) ?_
     refine Lex.q (v := .bool (decide ((ix ly (ix zs (j - 1)).toNat - ix ly (ix zs j).toNat) < 0))) rfl (OpQ.y (OpY.pure rfl)) ?_
     refine Lex.q (v := .bool (decide ((ix ly (ix zs (j - 1)).toNat - ix ly (ix zs j).toNat) < 0))) rfl (OpQ.y (OpY.pure rfl)) ?_
     refine Lex.done ?_
     refine Run.cond (b := decide ((ix ly (ix zs (j - 1)).toNat - ix ly (ix zs j).toNat) < 0)) rfl (fun h34 => ?_) (fun h34 => ?_)
     ·have p34 := h34; try simp only [bs] at p34
      refine Run.skip ?_
      refine Run.seq ?_
      refine Run.block ?_
      refine Run.lastly [15, 17] (by kernel_rfl) ?_
      refine DL.takeP (i := 0) (v := .slice (some ⟨g, 0, none⟩) n c) rfl (by kernel_rfl) (by kernel_rfl) (by kernel_rfl) (fun _ _ _ h => h) rfl (fun _ => OpY.pure rfl) ?_
      refine DL.takeP (i := 1) (v := .int .i64 (((j : Nat) : Int))) rfl (by kernel_rfl) (by kernel_rfl) (by kernel_rfl) (fun _ _ _ h => h) rfl (fun _ => OpY.pure rfl) ?_
      refine DL.takeP (i := 2) (v := .slice (some ⟨g, 0, none⟩) n c) rfl (by kernel_rfl) (by kernel_rfl) (by kernel_rfl) (fun _ _ _ h => h) rfl (fun _ => OpY.pure rfl) ?_
      refine DL.takeP (i := 3) (v := .int .i64 (((j : Nat) : Int))) rfl (by kernel_rfl) (by kernel_rfl) (by kernel_rfl) (fun _ _ _ h => h) rfl (fun _ => OpY.pure rfl) ?_
      refine DL.takeP (i := 4) (v := .int .i64 (((j - 1 : Nat) : Int))) rfl (by kernel_rfl) (by kernel_rfl) (by kernel_rfl) (fun _ _ _ h => h) rfl (fun _ => OpY.sub rfl rfl (by omega) (by omega) (by omega)) ?_
      refine DL.takeP (i := 5) (v := .slice (some ⟨g, 0, none⟩) n c) rfl (by kernel_rfl) (by kernel_rfl) (by kernel_rfl) (fun _ _ _ h => h) rfl (fun _ => OpY.pure rfl) ?_
      refine DL.takeP (i := 6) (v := .int .i64 (((j : Nat) : Int))) rfl (by kernel_rfl) (by kernel_rfl) (by kernel_rfl) (fun _ _ _ h => h) rfl (fun _ => OpY.pure rfl) ?_
      refine DL.takeP (i := 7) (v := .int .i64 (((j - 1 : Nat) : Int))) rfl (by kernel_rfl) (by kernel_rfl) (by kernel_rfl) (fun _ _ _ h => h) rfl (fun _ => OpY.sub rfl rfl (by omega) (by omega) (by omega)) ?_
      refine DL.takeP (i := 8) (v := .pointer (some ⟨g, j - 1, none⟩)) rfl (by kernel_rfl) (by kernel_rfl) (by kernel_rfl) (fun _ _ _ h => h) rfl (fun _ => OpY.index (kk := j - 1) Tsl_24 rfl rfl (by omega) (by omega) (by first | rfl | omega)) ?_
      refine DL.take (i := 9) (v := .int .i64 (ix zs (j - 1))) rfl (by kernel_rfl) (by kernel_rfl) (by kernel_rfl) (by kernel_rfl) (fun _ _ _ h => h) (Some'.weak (.take (.nil _))) rfl (OpY.load1 Tone_3 rfl (Cells.own0 (.head _) (pre1 (by first | omega | (simp; omega))))) ?_
      refine DL.takeP (i := 10) (v := .slice (some ⟨g, 0, none⟩) n c) rfl (by kernel_rfl) (by kernel_rfl) (by kernel_rfl) (fun _ _ _ h => h) rfl (fun _ => OpY.pure rfl) ?_
      refine DL.takeP (i := 11) (v := .int .i64 (((j : Nat) : Int))) rfl (by kernel_rfl) (by kernel_rfl) (by kernel_rfl) (fun _ _ _ h => h) rfl (fun _ => OpY.pure rfl) ?_
      refine DL.takeP (i := 12) (v := .pointer (some ⟨g, j, none⟩)) rfl (by kernel_rfl) (by kernel_rfl) (by kernel_rfl) (fun _ _ _ h => h) rfl (fun _ => OpY.index (kk := j) Tsl_24 rfl rfl (by omega) (by omega) (by first | rfl | omega)) ?_
      refine DL.take (i := 13) (v := .int .i64 (ix zs (j))) rfl (by kernel_rfl) (by kernel_rfl) (by kernel_rfl) (by kernel_rfl) (fun _ _ _ h => h) (Some'.weak (.take (.nil _))) rfl (OpY.load1 Tone_3 rfl (Cells.own0 (.head _) (pre1 (by first | omega | (simp; omega))))) ?_
      refine DL.takeP (i := 14) (v := .pointer (some ⟨g, j, none⟩)) rfl (by kernel_rfl) (by kernel_rfl) (by kernel_rfl) (fun _ _ _ h => h) rfl (fun _ => OpY.index (kk := j) Tsl_24 rfl rfl (by omega) (by omega) (by first | rfl | omega)) ?_
      refine DL.step (i := 15) (by kernel_rfl) (by kernel_rfl) rfl rfl (OpStep.storeOwnInt (o := j) (a := ix zs (j - 1)) Tsize_3 rfl rfl (.here _) (by first | omega | (simp; omega)) ?_)
      refine DL.takeP (i := 16) (v := .pointer (some ⟨g, j - 1, none⟩)) rfl (by kernel_rfl) (by kernel_rfl) (by kernel_rfl) (fun _ _ _ h => h) rfl (fun _ => OpY.index (kk := j - 1) Tsl_24 rfl rfl (by omega) (by omega) (by first | rfl | omega)) ?_
      refine DL.step (i := 17) (by kernel_rfl) (by kernel_rfl) rfl rfl (OpStep.storeOwnInt (o := j - 1) (a := ix zs (j)) Tsize_3 rfl rfl (.here _) (by first | omega | (simp; omega)) ?_)
      refine DL.done (by kernel_rfl) ?_
      refine Run.blockEnd ?_
      refine Run.region ?_
      refine Run.p (.int .i64 (((j : Nat) : Int))) rfl rfl ?_
      refine Run.y (.int .i64 (((j - 1 : Nat) : Int))) rfl (OpY.sub rfl rfl (by omega) (by omega) (by omega)) ?_
      refine Run.p (.int .i64 (((j - 1 : Nat) : Int))) rfl rfl ?_
      refine Run.done ?_
      refine Run.goal ⟨(by repeat (first | exact Same.refl _ _ | refine Same.put rfl ?_ | refine Same.over rfl rfl ?_)), (j - 1, swp zs j (j - 1)), ?_, ?_, ?_, ?_⟩
      ·exact ⟨by omega, (swp_perm (by omega) (by omega)).trans hinv.2.1, by rw [map_swp _ _ (by omega) (by omega)]; exact Ins.swap hinv.2.2 hj0 hinv.1 (by simp; omega) (by omega)⟩
      ·show j - 1 < j; omega
      ·exact ⟨(by show Value.int _ _ = Value.int _ _; congr 1 <;> omega), trivial⟩
      ·exact (Some'.weak (.takeEq (by first | rfl | simp) (.nil _)))
     ·have p34 := h34; try simp only [bs] at p34
      have hdn : j = 0 ∨ ix (zs.map (lk ly)) (j - 1) ≤ ix (zs.map (lk ly)) j := .inr (by omega)
      refine Run.exit rfl ?_
      refine Run.blockEnd ?_
      refine Run.region ?_
      refine Run.p (.int .i64 (((i : Nat) : Int))) rfl rfl ?_
      refine Run.y (.int .i64 (((i + 1 : Nat) : Int))) rfl (OpY.add rfl rfl (by omega) (by omega) (by omega)) ?_
      refine Run.p (.int .i64 (((i + 1 : Nat) : Int))) rfl rfl ?_
      refine Run.done ?_
      refine Run.goal ⟨(by repeat (first | exact Same.refl _ _ | refine Same.put rfl ?_ | refine Same.over rfl rfl ?_)), (i + 1, zs), ?_, ?_, ?_, ?_⟩
      ·exact ⟨by omega, hinv.2.1, Ins.done hinv.2.2 hinv.1 hdn⟩
      ·show n + 1 - (i + 1) < n + 1 - i; omega
      ·exact ⟨(by show Value.int _ _ = Value.int _ _; congr 1 <;> omega), trivial⟩
      ·exact (Some'.weak (.takeEq (by first | rfl | simp) (.nil _)))
    ·refine Lex.q (v := .bool false) rfl (OpQ.y (OpY.moveB rfl h21)) ?_
     have p21 := h21; try simp only [bs] at p21
     have hdn : j = 0 ∨ ix (zs.map (lk ly)) (j - 1) ≤ ix (zs.map (lk ly)) j := .inl (by omega)
     refine Lex.pass rfl ?_
     refine Lex.pass rfl ?_
     refine Lex.pass rfl ?_
     refine Lex.pass rfl ?_
     refine Lex.pass rfl ?_
     refine Lex.pass rfl ?_
     refine Lex.pass rfl ?_
     refine Lex.pass rfl ?_
     refine Lex.pass rfl ?_
     refine Lex.pass rfl ?_
     refine Lex.pass rfl ?_
     refine Lex.pass rfl ?_
     refine Lex.q (v := .bool false) rfl (OpQ.y (OpY.pure rfl)) ?_
     refine Lex.done ?_
     refine Run.cond (b := false) rfl (fun h => nomatch h) (fun _ => ?_)
     refine Run.exit rfl ?_
     refine Run.blockEnd ?_
     refine Run.region ?_
     refine Run.p (.int .i64 (((i : Nat) : Int))) rfl rfl ?_
     refine Run.y (.int .i64 (((i + 1 : Nat) : Int))) rfl (OpY.add rfl rfl (by omega) (by omega) (by omega)) ?_
     refine Run.p (.int .i64 (((i + 1 : Nat) : Int))) rfl rfl ?_
     refine Run.done ?_
     refine Run.goal ⟨(by repeat (first | exact Same.refl _ _ | refine Same.put rfl ?_ | refine Same.over rfl rfl ?_)), (i + 1, zs), ?_, ?_, ?_, ?_⟩
     ·exact ⟨by omega, hinv.2.1, Ins.done hinv.2.2 hinv.1 hdn⟩
     ·show n + 1 - (i + 1) < n + 1 - i; omega
     ·exact ⟨(by show Value.int _ _ = Value.int _ _; congr 1 <;> omega), trivial⟩
     ·exact (Some'.weak (.takeEq (by first | rfl | simp) (.nil _)))
  ·have p14 := h14; try simp only [bs] at p14
   have hend : srt (ys.map (lk ly)) n := fun p q h1 h2 => hinv.2.2 p q h1 (by omega)
   refine Run.exit rfl ?_
   refine Run.fin ?_
   refine ⟨.tuple #[], [.own (.slice (some ⟨g, 0, none⟩) n c) 3 1 n (ints ys)], Out.none rfl, (Some'.weak (.take (.nil _))), ?_⟩
   exact ⟨_, ⟨hinv.2.1, hend⟩, rfl, rfl⟩

set_option maxHeartbeats 1000000 in
set_option maxRecDepth 20000 in
theorem stabM_spec {g n c N : Nat} {ly xs : List Int} {cp : Value} {w : World} (hn : n ≤ 12) (hxl : xs.length = n) (hc : CmpM g N ly cp w) (hr : ∀ x ∈ xs, 0 ≤ x ∧ x < N) (hlr : ∀ i, -1000 ≤ ix ly i ∧ ix ly i ≤ 1000) (h : (Res.own (.slice (some ⟨g, 0, none⟩) n c) 3 1 n (ints xs)).holds w) : Calls Try.prog 72 #[.slice (some ⟨g, 0, none⟩) n c, .int .i64 (n : Int), .func (.func 47) #[] #[cp]] w (Post (Of [.own (.slice (some ⟨g, 0, none⟩) n c) 3 1 n (ints xs)]) w fun v H => ∃ ys, (ys.Perm xs ∧ srt (ys.map (lk ly)) n) ∧ v = .tuple #[] ∧ H = [.own (.slice (some ⟨g, 0, none⟩) n c) 3 1 n (ints ys)]) := by
 refine enter (n := 63) (args := [.slice (some ⟨g, 0, none⟩) n c, .int .i64 (((n : Nat) : Int)), .func (.func 47) #[] #[cp]]) Try.func72 rfl rfl (St.start1 h) ?_
 refine Run.sr ?_
 refine Run.p (.int .i64 20) rfl rfl ?_
 refine Run.dsr ?_
 refine Run.p (.int .i64 20) rfl rfl ?_
 refine Run.p (.int .i64 0) rfl rfl ?_
 refine Run.p (.int .i64 20) rfl rfl ?_
 refine Run.done ?_
 refine Run.seq ?_
 refine Run.block ?_
 refine Run.unroll 1 ?_
 refine Run.again ?_
 refine Run.seq ?_
 refine Run.sr ?_
 refine Run.p (.int .i64 20) rfl rfl ?_
 refine Run.p (.int .i64 (((n : Nat) : Int))) rfl rfl ?_
 refine Run.p (.bool (decide (20 ≤ (((n : Nat) : Int))))) rfl rfl ?_
 refine Run.done ?_
 refine Run.cond (b := decide (20 ≤ (((n : Nat) : Int)))) rfl (fun h13 => ?_) (fun h13 => ?_)
 ·exact absurd h13 (by simp; omega) --DONE
 ·have p13 := h13; try simp only [bs] at p13
  refine Run.exit rfl ?_
  refine Run.sr ?_
  refine Run.p (.slice (some ⟨g, 0, none⟩) n c) rfl rfl ?_
  refine Run.p (.int .i64 0) rfl rfl ?_
  refine Run.p (.int .i64 (((n : Nat) : Int))) rfl rfl ?_
  refine Run.p (.func (.func 47) #[] #[cp]) rfl rfl ?_
  refine Run.step rfl (OpStep.callM (H1 := [.own (.slice (some ⟨g, 0, none⟩) n c) 3 1 n (ints xs)]) (H2 := []) (vs := [.slice (some ⟨g, 0, none⟩) n c, .int .i64 0, .int .i64 (((n : Nat) : Int)), .func (.func 47) #[] #[cp]]) (caps := []) Tcall_81 rfl rfl (Weak.refl _) (fun w hs => insM_spec hn hxl (hc.next hs.toB) hr hlr (hs.holds _ (.head _))) ?_)
  rintro _ _ ⟨ys, hys, rfl, rfl⟩
  show Run _ _ (putF _ _ _ (.tuple #[])) [.own (.slice (some ⟨g, 0, none⟩) n c) 3 1 n (ints ys)]
  refine Run.done ?_
  refine Run.block ?_
  refine Run.unroll 1 ?_
  refine Run.again ?_
  refine Run.seq ?_
  refine Run.sr ?_
  refine Run.p (.int .i64 20) rfl rfl ?_
  refine Run.p (.int .i64 (((n : Nat) : Int))) rfl rfl ?_
  refine Run.p (.bool (decide (20 < (((n : Nat) : Int))))) rfl rfl ?_
  refine Run.done ?_
  refine Run.cond (b := decide (20 < (((n : Nat) : Int)))) rfl (fun h30 => ?_) (fun h30 => ?_)
  ·exact absurd h30 (by simp; omega) --DONE
  ·have p30 := h30; try simp only [bs] at p30
   refine Run.exit rfl ?_
   refine Run.fin ?_
   refine ⟨.tuple #[], [.own (.slice (some ⟨g, 0, none⟩) n c) 3 1 n (ints ys)], Out.none rfl, (Some'.weak (.take (.nil _))), ?_⟩
   exact ⟨_, hys, rfl, rfl⟩

set_option maxHeartbeats 1000000 in
set_option maxRecDepth 20000 in
theorem sortM_spec {g n c N : Nat} {ly xs : List Int} {cp : Value} {w : World} (hn : n ≤ 12) (hxl : xs.length = n) (hc : CmpM g N ly cp w) (hr : ∀ x ∈ xs, 0 ≤ x ∧ x < N) (hlr : ∀ i, -1000 ≤ ix ly i ∧ ix ly i ≤ 1000) (h : (Res.own (.slice (some ⟨g, 0, none⟩) n c) 3 1 n (ints xs)).holds w) : Calls Try.prog 46 #[.slice (some ⟨g, 0, none⟩) n c, .func (.func 47) #[] #[cp]] w (Post (Of [.own (.slice (some ⟨g, 0, none⟩) n c) 3 1 n (ints xs)]) w fun v H => ∃ ys, (ys.Perm xs ∧ srt (ys.map (lk ly)) n) ∧ v = .tuple #[] ∧ H = [.own (.slice (some ⟨g, 0, none⟩) n c) 3 1 n (ints ys)]) := by
 refine enter (n := 9) (args := [.slice (some ⟨g, 0, none⟩) n c, .func (.func 47) #[] #[cp]]) Try.func46 rfl rfl (St.start1 h) ?_
 refine Run.region ?_
 refine Run.p (.slice (some ⟨g, 0, none⟩) n c) rfl rfl ?_
 refine Run.p (.slice (some ⟨g, 0, none⟩) n c) rfl rfl ?_
 refine Run.y (.int .i64 (((n : Nat) : Int))) rfl (OpY.len Tsl_24 rfl) ?_
 refine Run.p (.func (.func 47) #[] #[cp]) rfl rfl ?_
 refine Run.step rfl (OpStep.callM (H1 := [.own (.slice (some ⟨g, 0, none⟩) n c) 3 1 n (ints xs)]) (H2 := []) (vs := [.slice (some ⟨g, 0, none⟩) n c, .int .i64 (((n : Nat) : Int)), .func (.func 47) #[] #[cp]]) (caps := []) Tcall_72 rfl rfl (Weak.refl _) (fun w hs => stabM_spec hn hxl (hc.next hs.toB) hr hlr (hs.holds _ (.head _))) ?_)
 rintro _ _ ⟨ys, hys, rfl, rfl⟩
 show Run _ _ (putF _ _ _ (.tuple #[])) [.own (.slice (some ⟨g, 0, none⟩) n c) 3 1 n (ints ys)]
 refine Run.done ?_
 refine Run.fin ?_
 refine ⟨.tuple #[], [.own (.slice (some ⟨g, 0, none⟩) n c) 3 1 n (ints ys)], Out.none rfl, (Some'.weak (.take (.nil _))), ?_⟩
 exact ⟨_, hys, rfl, rfl⟩

end Go.Proofs.Ytoiaibgcjfgbcaa
/- Walks: the function that compares layers, the order of measuring. -/
set_option linter.unusedSimpArgs false
set_option linter.unusedVariables false
namespace Go.Proofs.Ytoiaibgcjfgbcaa
open Go Go.RowKit
namespace FwqT
theorem Tcall_72 : callable Try.prog 72 = true := by kernel_rfl
theorem Tcall_81 : callable Try.prog 81 = true := by kernel_rfl
theorem Tfo_38_1 : fieldOff Try.prog 38 1 = some 1 := by kernel_rfl
theorem Tone_24 : oneOf Try.prog 24 = true := by kernel_rfl
theorem Tone_3 : oneOf Try.prog 3 = true := by kernel_rfl
theorem Tsl_24 : sliceOf Try.prog 24 = some (3, 1, 8, [.int .i64 0]) := by kernel_rfl
end FwqT
open FwqT
set_option maxHeartbeats 1000000 in
set_option maxRecDepth 20000 in
theorem moclo_spec {bf p q N : Nat} {vx vy : Value} {ly : List Int} {w : World} (hp : p < N) (hq : q < N) (hlr : ∀ i, -1000 ≤ ix ly i ∧ ix ly i ≤ 1000) (hb : Sl w (.slice (some ⟨bf, 0, none⟩) 1 1) 2 1 [vx, vy]) (hl : Sl w vy 1 N (ints ly)) : Calls Try.prog 47 #[.int .i64 (p : Nat), .int .i64 (q : Nat), .pointer (some ⟨bf, 0, none⟩)] w (Post No w fun v _ => v = .int .i64 (ix ly (q : Int).toNat - ix ly (p : Int).toNat)) := by
 have hll := hl.len
 obtain ⟨A, c, rfl, _, _⟩ := hl.form0
 have hl1 := hlr p
 have hl2 := hlr q
 refine enter (n := 17) (args := [.int .i64 (((p : Nat) : Int)), .int .i64 (((q : Nat) : Int)), .pointer (some ⟨bf, 0, none⟩)]) Try.func47 rfl rfl (St.empty _ _) ?_
 refine Run.sr ?_
 refine Run.p (.int .i64 0) rfl rfl ?_
 refine Run.done ?_
 refine Run.seq ?_
 obtain ⟨b, o, rfl⟩ := hl.opn (by omega)
 refine Run.draws (by kernel_rfl) (by kernel_rfl) ?_
 refine Lex.q (v := .pointer (some ⟨bf, 1, none⟩)) rfl (OpQ.y (OpY.fieldAddr Tfo_38_1 rfl rfl)) ?_
 refine Lex.q (v := .slice (some ⟨b, o, none⟩) N c) rfl (OpQ.y (OpY.load1 Tone_24 rfl (Cells.env (k := 1) hb rfl (by decide) ⟨rfl, trivial⟩))) ?_
 refine Lex.q (v := .int .i64 (((q : Nat) : Int))) rfl (OpQ.y (OpY.pure rfl)) ?_
 refine Lex.q (v := .pointer (some ⟨b, o + q, none⟩)) rfl (OpQ.y (OpY.index (kk := q) Tsl_24 rfl rfl (by omega) (by omega) (by first | rfl | omega))) ?_
 refine Lex.q (v := .int .i64 (ix ly (q))) rfl (OpQ.y (OpY.load1 Tone_3 rfl (Cells.arg (k := q) hl rfl (by omega) (pre1 (by omega))))) ?_
 refine Lex.q (v := .pointer (some ⟨bf, 1, none⟩)) rfl (OpQ.y (OpY.fieldAddr Tfo_38_1 rfl rfl)) ?_
 refine Lex.q (v := .slice (some ⟨b, o, none⟩) N c) rfl (OpQ.y (OpY.load1 Tone_24 rfl (Cells.env (k := 1) hb rfl (by decide) ⟨rfl, trivial⟩))) ?_
 refine Lex.q (v := .int .i64 (((p : Nat) : Int))) rfl (OpQ.y (OpY.pure rfl)) ?_
 refine Lex.q (v := .pointer (some ⟨b, o + p, none⟩)) rfl (OpQ.y (OpY.index (kk := p) Tsl_24 rfl rfl (by omega) (by omega) (by first | rfl | omega))) ?_
 refine Lex.q (v := .int .i64 (ix ly (p))) rfl (OpQ.y (OpY.load1 Tone_3 rfl (Cells.arg (k := p) hl rfl (by omega) (pre1 (by omega))))) ?_
 refine Lex.q (v := .int .i64 ((ix ly (q)) - (ix ly (p)))) rfl (OpQ.y (OpY.sub rfl rfl rfl (by omega) (by omega))) ?_
 refine Lex.q (v := .int .i64 ((ix ly (q)) - (ix ly (p)))) rfl (OpQ.y (OpY.pure rfl)) ?_
 refine Lex.done ?_
 refine Run.ret ?_
 refine ⟨.int .i64 ((ix ly (q)) - (ix ly (p))), [], Out.one rfl rfl, (Some'.weak (.nil _)), ?_⟩
 rfl

set_option maxHeartbeats 1000000 in
set_option maxRecDepth 20000 in
theorem insM_nil {A : Option Addr} {c : Nat} {cp : Value} {w : World} : Calls Try.prog 81 #[.slice A 0 c, .int .i64 0, .int .i64 0, .func (.func 47) #[] #[cp]] w (Post No w fun v _ => v = .tuple #[]) := by
 refine enter (n := 53) (args := [.slice A 0 c, .int .i64 0, .int .i64 0, .func (.func 47) #[] #[cp]]) Try.func81 rfl rfl (St.empty _ _) ?_
 refine Run.sr ?_
 refine Run.p (.int .i64 0) rfl rfl ?_
 refine Run.p (.int .i64 1) rfl rfl ?_
 refine Run.p (.int .i64 1) rfl rfl ?_
 refine Run.done ?_
 refine Run.block ?_
 refine Run.unroll 1 ?_
 refine Run.again ?_
 refine Run.seq ?_
 refine Run.sr ?_
 refine Run.p (.int .i64 1) rfl rfl ?_
 refine Run.p (.int .i64 0) rfl rfl ?_
 refine Run.p (.bool false) rfl rfl ?_
 refine Run.done ?_
 refine Run.cond (b := false) rfl (fun h => nomatch h) (fun _ => ?_)
 refine Run.exit rfl ?_
 refine Run.fin ?_
 refine ⟨.tuple #[], [], Out.none rfl, (Some'.weak (.nil _)), ?_⟩
 rfl

set_option maxHeartbeats 1000000 in
set_option maxRecDepth 20000 in
theorem stabM_nil {A : Option Addr} {c : Nat} {cp : Value} {w : World} : Calls Try.prog 72 #[.slice A 0 c, .int .i64 0, .func (.func 47) #[] #[cp]] w (Post No w fun v _ => v = .tuple #[]) := by
 refine enter (n := 63) (args := [.slice A 0 c, .int .i64 0, .func (.func 47) #[] #[cp]]) Try.func72 rfl rfl (St.empty _ _) ?_
 refine Run.sr ?_
 refine Run.p (.int .i64 20) rfl rfl ?_
 refine Run.dsr ?_
 refine Run.p (.int .i64 20) rfl rfl ?_
 refine Run.p (.int .i64 0) rfl rfl ?_
 refine Run.p (.int .i64 20) rfl rfl ?_
 refine Run.done ?_
 refine Run.seq ?_
 refine Run.block ?_
 refine Run.unroll 1 ?_
 refine Run.again ?_
 refine Run.seq ?_
 refine Run.sr ?_
 refine Run.p (.int .i64 20) rfl rfl ?_
 refine Run.p (.int .i64 0) rfl rfl ?_
 refine Run.p (.bool false) rfl rfl ?_
 refine Run.done ?_
 refine Run.cond (b := false) rfl (fun h => nomatch h) (fun _ => ?_)
 refine Run.exit rfl ?_
 refine Run.sr ?_
 refine Run.p (.slice A 0 c) rfl rfl ?_
 refine Run.p (.int .i64 0) rfl rfl ?_
 refine Run.p (.int .i64 0) rfl rfl ?_
 refine Run.p (.func (.func 47) #[] #[cp]) rfl rfl ?_
 refine Run.q (v := .tuple #[]) rfl (OpQ.call (vs := [.slice A 0 c, .int .i64 0, .int .i64 0, .func (.func 47) #[] #[cp]]) (caps := []) Tcall_81 rfl rfl (fun w hs => insM_nil)) ?_
 refine Run.done ?_
 refine Run.block ?_
 refine Run.unroll 1 ?_
 refine Run.again ?_
 refine Run.seq ?_
 refine Run.sr ?_
 refine Run.p (.int .i64 20) rfl rfl ?_
 refine Run.p (.int .i64 0) rfl rfl ?_
 refine Run.p (.bool false) rfl rfl ?_
 refine Run.done ?_
 refine Run.cond (b := false) rfl (fun h => nomatch h) (fun _ => ?_)
 refine Run.exit rfl ?_
 refine Run.fin ?_
 refine ⟨.tuple #[], [], Out.none rfl, (Some'.weak (.nil _)), ?_⟩
 rfl

set_option maxHeartbeats 1000000 in
set_option maxRecDepth 20000 in
theorem SortM_nil {A : Option Addr} {c : Nat} {cp : Value} {w : World} : Calls Try.prog 46 #[.slice A 0 c, .func (.func 47) #[] #[cp]] w (Post No w fun v _ => v = .tuple #[]) := by
 refine enter (n := 9) (args := [.slice A 0 c, .func (.func 47) #[] #[cp]]) Try.func46 rfl rfl (St.empty _ _) ?_
 refine Run.region ?_
 refine Run.p (.slice A 0 c) rfl rfl ?_
 refine Run.p (.slice A 0 c) rfl rfl ?_
 refine Run.y (.int .i64 0) rfl (OpY.len Tsl_24 rfl) ?_
 refine Run.p (.func (.func 47) #[] #[cp]) rfl rfl ?_
 refine Run.q (v := .tuple #[]) rfl (OpQ.call (vs := [.slice A 0 c, .int .i64 0, .func (.func 47) #[] #[cp]]) (caps := []) Tcall_72 rfl rfl (fun w hs => stabM_nil)) ?_
 refine Run.done ?_
 refine Run.fin ?_
 refine ⟨.tuple #[], [], Out.none rfl, (Some'.weak (.nil _)), ?_⟩
 rfl


theorem SortM_spec {n N : Nat} {ly xs : List Int} {v cp : Value} {w : World} (hn : n ≤ 12) (hxl : xs.length = n) (hc : ∀ g, v.ownBlock = some g → CmpM g N ly cp w) (hr : ∀ x ∈ xs, 0 ≤ x ∧ x < N) (hlr : ∀ i, -1000 ≤ ix ly i ∧ ix ly i ≤ 1000) (h : (Res.own v 3 1 n (ints xs)).holds w) :
    Calls Try.prog 46 #[v, .func (.func 47) #[] #[cp]] w (Post (Of [.own v 3 1 n (ints xs)]) w fun u H => ∃ ys, (ys.Perm xs ∧ srt (ys.map (lk ly)) n) ∧ u = .tuple #[] ∧ H = [.own v 3 1 n (ints ys)]) := by
  have hs := St.start1 h
  have hsl : Sl w v 1 n (ints xs) := hs.slOwn (.head _)
  by_cases h0 : n = 0
  · subst h0
    obtain rfl : xs = [] := List.length_eq_zero_iff.1 hxl
    obtain ⟨A, c, rfl, _, _⟩ := hsl.form0
    refine (SortM_nil (A := A) (c := c) (cp := cp) (w := w)).mono fun e w' hp => ?_
    obtain ⟨u, H', he, hs', hu⟩ := hp
    refine ⟨u, _, he, (hs.call hs').sub (List.sublist_append_right H' _), [], ⟨List.Perm.refl _, fun p q h1 h2 => by omega⟩, hu, rfl⟩
  · rcases h.2 with ⟨_, h1⟩ | ⟨g, cap, cur, rfl, _⟩
    · exact absurd h1 h0
    · exact sortM_spec hn hxl (hc g rfl) hr hlr h
theorem mo_cmp {bf N : Nat} {vx vy v : Value} {ly : List Int} {w0 w : World} {H2 : List Res} {e t : TypeId} {s m : Nat} {zs : List Value} (hlr : ∀ i, -1000 ≤ ix ly i ∧ ix ly i ≤ 1000) (hl : Sl w0 vy 1 N (ints ly))
    (hs : St No w0 w (.own v e s m zs :: H2)) (hm : Res.blk bf t [vx, vy] ∈ H2) : ∀ g, v.ownBlock = some g → CmpM g N ly (.pointer (some ⟨bf, 0, none⟩)) w := by
  intro g hgv w' hw' x y h0 h1 h2 h3
  have hs2 : St No w0 w' H2 := by
    have h4 : St (Of [.own v e s m zs]) w w' [] := hw'.mono fun k _ hk => ⟨_, List.mem_singleton.2 rfl, by rw [hk]; exact hgv⟩
    exact hs.callM (H1 := [.own v e s m zs]) (H' := []) h4
  obtain ⟨p, rfl⟩ : ∃ p : Nat, x = p := ⟨x.toNat, by omega⟩
  obtain ⟨q, rfl⟩ : ∃ q : Nat, y = q := ⟨y.toNat, by omega⟩
  exact moclo_spec (by omega) (by omega) hlr (hs2.slBlk hm) (hs2.sl hl)

end Go.Proofs.Ytoiaibgcjfgbcaa
/- Walks: the order of measuring. -/
set_option linter.unusedSimpArgs false
set_option linter.unusedVariables false
namespace Go.Proofs.Ytoiaibgcjfgbcaa
open Go Go.RowKit
namespace FwrT
theorem Tagg_26 : aggOf Try.prog 26 = some 4 := by kernel_rfl
theorem Tagg_38 : aggOf Try.prog 38 = some 2 := by kernel_rfl
theorem Tcall_24 : callable Try.prog 24 = true := by kernel_rfl
theorem Tcall_30 : callable Try.prog 30 = true := by kernel_rfl
theorem Tcall_37 : callable Try.prog 37 = true := by kernel_rfl
theorem Tcall_46 : callable Try.prog 46 = true := by kernel_rfl
theorem Tfo_26_0 : fieldOff Try.prog 26 0 = some 0 := by kernel_rfl
theorem Tfo_26_3 : fieldOff Try.prog 26 3 = some 3 := by kernel_rfl
theorem Tone_24 : oneOf Try.prog 24 = true := by kernel_rfl
theorem Tone_3 : oneOf Try.prog 3 = true := by kernel_rfl
theorem Tsl_24 : sliceOf Try.prog 24 = some (3, 1, 8, [.int .i64 0]) := by kernel_rfl
end FwrT
open FwrT
/-- The nodes below k that are no outputs. -/
def notO (os : List Int) (no : Nat) : Nat → List Int
  | 0 => []
  | v + 1 => notO os no v ++ if hasI os (v : Int) no then [] else [(v : Int)]
theorem notO_le (os : List Int) (no : Nat) : ∀ k, (notO os no k).length ≤ k
  | 0 => by simp [notO]
  | k + 1 => by
    have := notO_le os no k
    rw [notO, List.length_append]
    split <;> simp only [List.length_nil, List.length_cons] <;> omega
theorem notO_mem {os : List Int} {no : Nat} : ∀ k x, x ∈ notO os no k ↔ ∃ v : Nat, v < k ∧ x = (v : Int) ∧ hasI os (v : Int) no = false
  | 0, x => by simp [notO]
  | k + 1, x => by
    rw [notO, List.mem_append, notO_mem k x]
    constructor
    · rintro (⟨v, h1, h2, h3⟩ | h)
      · exact ⟨v, by omega, h2, h3⟩
      · split at h
        · cases h
        · rename_i h1
          simp only [List.mem_cons, List.not_mem_nil, or_false] at h
          exact ⟨k, by omega, h, by simpa using h1⟩
    · rintro ⟨v, h1, h2, h3⟩
      by_cases e : v = k
      · subst e; right; rw [if_neg (by rw [h3]; decide)]; simp [h2]
      · exact .inl ⟨v, by omega, h2, h3⟩
theorem notO_filter (os : List Int) (no : Nat) : ∀ k, (notO os no k).length = ((List.range k).filter fun v : Nat => !hasI os (v : Int) no).length
  | 0 => rfl
  | k + 1 => by
    rw [notO, List.length_append, notO_filter os no k, List.range_succ, List.filter_append, List.length_append]
    cases hb : hasI os (k : Int) no <;> simp [hb]
theorem notO_len {os : List Int} {no n : Nat} (h : risB os n no = true) : (notO os no n).length + no = n := by
  have h1 := ris_len h
  have h2 := List.filter_append_perm (fun v : Nat => hasI os (v : Int) no) (List.range n)
  have h3 := h2.length_eq
  rw [List.length_append, List.length_range, h1] at h3
  rw [notO_filter]; omega
theorem gf_lay {es : List Int} {m n : Nat} {is : List Int} {ni : Nat} {os : List Int} {no : Nat} {ss ly : List Int} (h : gfB es m n is ni os no ss n ly n = true) (hl : ly.length = n) : ∀ i, -1000 ≤ ix ly i ∧ ix ly i ≤ 1000 := by
  intro i
  simp only [gfB, layB, Bool.and_eq_true, allI_iff] at h
  by_cases hi : i < n
  · have := within_iff.1 (h.1.2.2 i hi); omega
  · have : ix ly i = 0 := by
      have : ly.length ≤ i := by omega
      simp [ix, List.getD, this]
    omega

set_option maxHeartbeats 1000000 in
set_option maxRecDepth 20000 in
theorem MeasureOrder_spec {ve vi vo vx vy : Value} {n m ni no : Nat} {es is os ss ly : List Int} {w : World} (hg : ogB n es m is ni os no = true) (hgf : gfB es m n is ni os no ss n ly n = true) (he : Sl w ve 2 m (ints es)) (hi : Sl w vi 1 ni (ints is)) (ho : Sl w vo 1 no (ints os)) (hx : Sl w vx 1 n (ints ss)) (hy : Sl w vy 1 n (ints ly)) : Calls Try.prog 21 #[.agg #[.int .i64 (n : Int), ve, vi, vo], .agg #[vx, vy]] w (Post No w fun v H => ∃ (u : Value) (k : Nat) (ys : List Int), (k + no = n ∧ ys.Perm (notO os no n) ∧ srt (ys.map (lk ly)) k) ∧ v = .tuple #[u, .bool true] ∧ H = [.own u 3 1 k (ints ys)]) := by
 obtain ⟨hn1, hn10, hes, hri, hro⟩ := og_ok hg
 have hlr := gf_lay hgf (by have := hy.len; simpa using this)
 have hnl := notO_len hro
 refine enter (n := 37) (args := [.agg #[.int .i64 (((n : Nat) : Int)), ve, vi, vo], .agg #[vx, vy]]) Try.func21 rfl rfl (St.empty _ _) ?_
 refine Run.sr ?_
 refine Run.step rfl (OpStep.box (us := [.int .i64 (((n : Nat) : Int)), ve, vi, vo]) rfl fun b1 => ?_)
 refine Run.step rfl (OpStep.box (us := [vx, vy]) rfl fun b2 => ?_)
 refine Run.p (.slice none 0 0) rfl rfl ?_
 refine Run.p (.bool false) rfl rfl ?_
 refine Run.done ?_
 refine Run.seq ?_
 refine Run.sr ?_
 refine Run.y (.agg #[.int .i64 (((n : Nat) : Int)), ve, vi, vo]) rfl (OpY.loadN (cs := [.int .i64 (((n : Nat) : Int)), ve, vi, vo]) Tagg_26 rfl (Cells.blk (.tail _ (List.Mem.head _)) ⟨rfl, rfl, rfl, rfl, trivial⟩)) ?_
 refine Run.q (v := .bool true) rfl (OpQ.call (vs := [.agg #[.int .i64 (((n : Nat) : Int)), ve, vi, vo]]) (caps := []) Tcall_24 rfl rfl (fun w hs => (by have h := IsValidOpenGraph_spec (n := n) (by omega) (hs.sl he) (hs.sl hi) (hs.sl ho); rw [hg] at h; exact h))) ?_
 refine Run.p (.bool false) rfl rfl ?_
 refine Run.p (.bool false) rfl rfl ?_
 refine Run.y (.agg #[.int .i64 (((n : Nat) : Int)), ve, vi, vo]) rfl (OpY.loadN (cs := [.int .i64 (((n : Nat) : Int)), ve, vi, vo]) Tagg_26 rfl (Cells.blk (.tail _ (List.Mem.head _)) ⟨rfl, rfl, rfl, rfl, trivial⟩)) ?_
 refine Run.y (.agg #[vx, vy]) rfl (OpY.loadN (cs := [vx, vy]) Tagg_38 rfl (Cells.blk (.head _) ⟨rfl, rfl, trivial⟩)) ?_
 refine Run.q (v := .bool true) rfl (OpQ.call (vs := [.agg #[.int .i64 (((n : Nat) : Int)), ve, vi, vo], .agg #[vx, vy]]) (caps := []) Tcall_37 rfl rfl (fun w hs => (by have h := isGFlow_spec (n := n) hn1 hn10 hes hri (hs.sl he) (hs.sl hi) (hs.sl ho) (hs.sl hx) (hs.sl hy); rw [hgf] at h; exact h))) ?_
 refine Run.p (.bool false) rfl rfl ?_
 refine Run.p (.bool false) rfl rfl ?_
 refine Run.done ?_
 refine Run.cond (b := false) rfl (fun h => nomatch h) (fun _ => ?_)
 refine Run.skip ?_
 refine Run.sr ?_
 refine Run.step rfl (OpStep.buildSlice (us := []) Tsl_24 (by decide) (by decide) rfl rfl fun b3 => ?_)
 refine Run.p (.slice (some ⟨b3, 0, none⟩) 0 0) rfl rfl ?_
 refine Run.done ?_
 refine Run.seq ?_
 refine Run.sr ?_
 refine Run.y (.pointer (some ⟨b1, 0, none⟩)) rfl (OpY.fieldAddr Tfo_26_0 rfl rfl) ?_
 refine Run.y (.int .i64 (((n : Nat) : Int))) rfl (OpY.load1 Tone_3 rfl (Cells.blk (.tail _ (.tail _ (List.Mem.head _))) ⟨rfl, trivial⟩)) ?_
 refine Run.p (.int .i64 0) rfl rfl ?_
 refine Run.done ?_
 refine Run.block ?_
 refine Run.loop (ι := Nat × Value) [6, 7, 20, 21, 22, 23, 24, 25, 26, 27, 28, 29, 30, 31, 32] (fun ⟨v, u⟩ => [(6, u), (20, .int .i64 (((v : Nat) : Int)))]) (fun ⟨v, u⟩ => [.own u 3 1 ((notO os no v).length) (ints (notO os no v)), .blk b2 38 [vx, vy], .blk b1 26 [.int .i64 (((n : Nat) : Int)), ve, vi, vo]]) (fun ⟨v, u⟩ => v ≤ n) (fun ⟨v, u⟩ => n - v) (0, .slice (some ⟨b3, 0, none⟩) 0 0) ?_ ?_ ?_ ?_
 ·exact Nat.zero_le _
 ·exact ⟨rfl, rfl, trivial⟩
 ·exact ((Weak.refl _).trans (Some'.weak (.takeEq (by first | rfl | (rw [hnx]) | simp) (.take (.take (.nil _))))))
 ·rintro ⟨v, u⟩ fr hinv
  show Run _ _ (over _ _ [(6, u), (20, .int .i64 (((v : Nat) : Int)))] fr) [.own u 3 1 ((notO os no v).length) (ints (notO os no v)), .blk b2 38 [vx, vy], .blk b1 26 [.int .i64 (((n : Nat) : Int)), ve, vi, vo]]
  try dsimp only at hinv
  refine Run.sr ?_
  refine Run.p (.bool (decide ((((v : Nat) : Int)) < (((n : Nat) : Int))))) rfl rfl ?_
  refine Run.done ?_
  refine Run.seq ?_
  refine Run.cond (b := decide ((((v : Nat) : Int)) < (((n : Nat) : Int)))) rfl (fun h21 => ?_) (fun h21 => ?_)
  ·have p21 := h21; try simp only [bs] at p21
   have hvn : v < n := by omega
   have hle := notO_le os no v
   refine Run.skip ?_
   refine Run.seq ?_
   refine Run.block ?_
   refine Run.sr ?_
   refine Run.p (.int .i64 (((v : Nat) : Int))) rfl rfl ?_
   refine Run.p (.int .i64 (((v : Nat) : Int))) rfl rfl ?_
   refine Run.dsr ?_
   refine Run.y (.pointer (some ⟨b1, 3, none⟩)) rfl (OpY.fieldAddr Tfo_26_3 rfl rfl) ?_
   refine Run.y (vo) rfl (OpY.load1 Tone_24 rfl (Cells.blk (.tail _ (.tail _ (List.Mem.head _))) ⟨rfl, trivial⟩)) ?_
   refine Run.p (.int .i64 (((v : Nat) : Int))) rfl rfl ?_
   refine Run.q (v := .bool (hasI os (v : Int) no)) rfl (OpQ.call (vs := [vo, .int .i64 (((v : Nat) : Int))]) (caps := []) Tcall_30 rfl rfl (fun w hs => (by have h := ContainsInt_spec (x := ((v : Nat) : Int)) (hs.sl ho); exact h))) ?_
   refine Run.p (.bool (!(hasI os (v : Int) no))) rfl rfl ?_
   refine Run.done ?_
   refine Run.cond (b := !(hasI os (v : Int) no)) rfl (fun h27 => ?_) (fun h27 => ?_)
   ·have p27 := h27; try simp only [bs] at p27
    have hnx : notO os no (v + 1) = notO os no v ++ [(v : Int)] := by rw [notO, if_neg (by simpa using p27)]
    have hnxl : (notO os no (v + 1)).length = (notO os no v).length + 1 := by rw [hnx]; simp
    refine Run.region ?_
    refine Run.p (u) rfl rfl ?_
    refine Run.p (.int .i64 (((v : Nat) : Int))) rfl rfl ?_
    refine Run.step rfl (OpStep.buildSlice (us := [.int .i64 (((v : Nat) : Int))]) Tsl_24 (by decide) (by decide) ⟨rfl, [.int .i64 (((v : Nat) : Int))], _, rfl, rfl, rfl, rfl⟩ rfl fun b4 => ?_)
    refine Run.step rfl (OpStep.append (H1 := [.own (.slice (some ⟨b4, 0, none⟩) 1 1) 3 1 1 ([.int .i64 (((v : Nat) : Int))])]) (H2 := [.blk b2 38 [vx, vy], .blk b1 26 [.int .i64 (((n : Nat) : Int)), ve, vi, vo]]) (v := u) (u := .slice (some ⟨b4, 0, none⟩) 1 1) (n := (notO os no v).length) (m := 1) (xs := ints (notO os no v)) (ys := [.int .i64 (((v : Nat) : Int))]) Tsl_24 (by decide) rfl rfl rfl rfl (fun w hs => hs.slOwn (.head _)) (by simp [Value.oneCell']) (by omega) (by simp only [maxLen]; omega) fun av1 hnav1 => ?_)
    refine Run.weak (H' := [.own (.slice (some ⟨b4, 0, none⟩) 1 1) 3 1 1 ([.int .i64 (((v : Nat) : Int))]), .own av1 3 1 ((notO os no (v + 1)).length) (ints (notO os no (v + 1))), .blk b2 38 [vx, vy], .blk b1 26 [.int .i64 (((n : Nat) : Int)), ve, vi, vo]]) (Some'.weak (.take (.takeEq (by rw [hnx]; simp [ints]) (.take (.take (.nil _)))))) ?_ ⟨_, _, rfl, fun _ => nofun, fun _ => nofun⟩
    refine Run.p (av1) rfl rfl ?_
    refine Run.done ?_
    refine Run.blockEnd ?_
    refine Run.region ?_
    refine Run.y (.int .i64 (((v + 1 : Nat) : Int))) rfl (OpY.add rfl rfl (by omega) (by omega) (by omega)) ?_
    refine Run.p (.int .i64 (((v + 1 : Nat) : Int))) rfl rfl ?_
    refine Run.done ?_
    refine Run.goal ⟨(by repeat (first | exact Same.refl _ _ | refine Same.put rfl ?_ | refine Same.over rfl rfl ?_)), (v + 1, av1), ?_, ?_, ?_, ?_⟩
    ·exact hvn
    ·show n - (v + 1) < n - v; omega
    ·exact ⟨(by first | rfl | (congr 1; omega) | simp), (by first | rfl | (congr 1; omega) | simp), trivial⟩
    ·exact ((Weak.selF [1, 1, 1]).trans (Some'.weak (.takeEq (by first | rfl | (rw [hnx]) | simp) (.take (.take (.nil _))))))
   ·have p27 := h27; try simp only [bs] at p27
    have hnx : notO os no (v + 1) = notO os no v := by rw [notO, if_pos (by simpa using p27), List.append_nil]
    refine Run.skip ?_
    refine Run.blockEnd ?_
    refine Run.region ?_
    refine Run.y (.int .i64 (((v + 1 : Nat) : Int))) rfl (OpY.add rfl rfl (by omega) (by omega) (by omega)) ?_
    refine Run.p (.int .i64 (((v + 1 : Nat) : Int))) rfl rfl ?_
    refine Run.done ?_
    refine Run.goal ⟨(by repeat (first | exact Same.refl _ _ | refine Same.put rfl ?_ | refine Same.over rfl rfl ?_)), (v + 1, u), ?_, ?_, ?_, ?_⟩
    ·exact hvn
    ·show n - (v + 1) < n - v; omega
    ·exact ⟨(by first | rfl | (congr 1; omega) | simp), (by first | rfl | (congr 1; omega) | simp), trivial⟩
    ·exact ((Weak.refl _).trans (Some'.weak (.takeEq (by first | rfl | (rw [hnx]) | simp) (.take (.take (.nil _))))))
  ·have p21 := h21; try simp only [bs] at p21
   have hvn : v = n := by omega
   have hle := notO_le os no v
   have hrx : ∀ x ∈ notO os no v, 0 ≤ x ∧ x < n := fun x hx => by
    obtain ⟨u, h1, h2, _⟩ := (notO_mem v x).1 hx
    omega
   refine Run.exit rfl ?_
   refine Run.sr ?_
   refine Run.p (u) rfl rfl ?_
   refine Run.y (.func (.func 47) #[] #[.pointer (some ⟨b2, 0, none⟩)]) rfl (OpY.makeFunc (caps := [.pointer (some ⟨b2, 0, none⟩)]) rfl) ?_
   refine Run.step rfl (OpStep.callM (H1 := [.own u 3 1 ((notO os no v).length) (ints (notO os no v))]) (H2 := [.blk b2 38 [vx, vy], .blk b1 26 [.int .i64 (((n : Nat) : Int)), ve, vi, vo]]) (vs := [u, .func (.func 47) #[] #[.pointer (some ⟨b2, 0, none⟩)]]) (caps := []) Tcall_46 rfl rfl (Weak.refl _) (fun w hs => SortM_spec (N := n) (ly := ly) (xs := notO os no v) (by omega) rfl (mo_cmp hlr hy hs (.head _)) hrx hlr (hs.holds _ (.head _))) ?_)
   rintro _ _ ⟨ys, hys, rfl, rfl⟩
   show Run _ _ (putF _ _ _ (.tuple #[])) [.own u 3 1 ((notO os no v).length) (ints ys), .blk b2 38 [vx, vy], .blk b1 26 [.int .i64 (((n : Nat) : Int)), ve, vi, vo]]
   refine Run.dsr ?_
   refine Run.p (u) rfl rfl ?_
   refine Run.p (u) rfl rfl ?_
   refine Run.p (.bool true) rfl rfl ?_
   refine Run.done ?_
   refine Run.ret ?_
   refine ⟨.tuple #[u, .bool true], [.own u 3 1 ((notO os no v).length) (ints ys)], Out.two rfl rfl rfl, (Some'.weak (.take (.nil _))), ?_⟩
   exact ⟨_, _, ys, ⟨by rw [hvn]; omega, by rw [← hvn]; exact hys.1, hys.2⟩, rfl, rfl⟩

end Go.Proofs.Ytoiaibgcjfgbcaa
